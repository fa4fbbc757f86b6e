import Derived.Test.YtclojjiiiejfpaaDoorXgBatch1
namespace Go.Proofs.YtclojjiiiejfpaaDoor
set_option linter.unusedSimpArgs false
set_option linter.unusedVariables false
set_option maxRecDepth 100000
attribute [local irreducible] Go.X.xE
open Go Go.X Go.RowKit

/-! ## batch.Get -/
theorem btBuild0 : Tryd.prog.built 63 (#[] : Array (Nat × Value)).toList = some (encBt ⟨0, 0, 0, []⟩ (.slice none 0 0)).toArray := by kernel_rfl
theorem btBuild {a b c : Int} {p : Option Addr} {n m : Nat} {l : List ByteArray} : Tryd.prog.built 63 #[(0, Value.int .i64 a), (1, .int .i64 b), (2, .int .i64 c), (3, .slice p n m)].toList = some (encBt ⟨a, b, c, l⟩ (.slice p n m)).toArray := by kernel_rfl
theorem btBuild' {a b c : Int} {vv : Value} {l : List ByteArray} {w : World} {α : Type} {enc : α → List Value} {l' : List α} (h : SlT w enc vv l') : Tryd.prog.built 63 #[(0, Value.int .i64 a), (1, .int .i64 b), (2, .int .i64 c), (3, vv)].toList = some (encBt ⟨a, b, c, l⟩ vv).toArray := by
  obtain ⟨x, y, rfl, _⟩ := h; exact btBuild
def bt0 : Bt := ⟨0, 0, 0, []⟩
def btOf (e : Except Er Bt) : Bt := match e with
  | .ok b => b
  | .error _ => bt0
def erOf (e : Except Er Bt) : Option Er := match e with
  | .ok _ => none
  | .error e => some e
theorem row4V {w : World} {raws : List RawV} {a b c d : GVl} (h : IsRow w raws [a, b, c, d]) : ∃ xa xb xc xd, raws = [xa, xb, xc, xd] ∧ IsV w xa a ∧ IsV w xb b ∧ IsV w xc c ∧ IsV w xd d := by
  obtain ⟨hl, hv⟩ := h
  rcases raws with _ | ⟨xa, _ | ⟨xb, _ | ⟨xc, _ | ⟨xd, _ | ⟨y, z⟩⟩⟩⟩⟩ <;> simp at hl
  exact ⟨xa, xb, xc, xd, rfl, hv 0 _ _ rfl rfl, hv 1 _ _ rfl rfl, hv 2 _ _ rfl rfl, hv 3 _ _ rfl rfl⟩
/-- the four loads, the new variable, the loads again -/
theorem fourV {o : Value} {raws : List RawV} {xa xb xc xd : RawV} {a b c d : GVl} {w : World} {K : Value → World → Prop} (hr : raws = [xa, xb, xc, xd]) (ho : SlT w encV o raws) (va : IsV w xa a) (vb : IsV w xb b) (vc : IsV w xc c) (vd : IsV w xd d)
    (k : ∀ w', Blk w' w.heap.size 63 (encBt ⟨a.n, b.n, c.n, d.l⟩ xd.lv) → Kept [] w w' → K (.pointer (some ⟨w.heap.size, 0, none⟩)) w') :
    xP Tryd.prog (sIA 33 o (.int .i64 0)) fun v19 => xP Tryd.prog (sFA 32 v19 0) fun v20 => xR Tryd.prog (sLoad 3 v20) (w.drew) fun v21 =>
    xP Tryd.prog (sIA 33 o (.int .i64 1)) fun v23 => xP Tryd.prog (sFA 32 v23 0) fun v24 => xR Tryd.prog (sLoad 3 v24) (w.drew) fun v25 =>
    xP Tryd.prog (sIA 33 o (.int .i64 2)) fun v27 => xP Tryd.prog (sFA 32 v27 0) fun v28 => xR Tryd.prog (sLoad 3 v28) (w.drew) fun v29 =>
    xP Tryd.prog (sIA 33 o (.int .i64 3)) fun v31 => xP Tryd.prog (sFA 32 v31 2) fun v32 => xR Tryd.prog (sLoad 30 v32) (w.drew) fun v33 =>
    xP Tryd.prog (sBuild 63 #[(0, v21), (1, v25), (2, v29), (3, v33)]) fun v34 =>
    xE Tryd.prog (sAlloc 63) (w.drew) fun v6 w29 =>
    xStill Tryd.prog (sLoad 30 v32) v33 w29 <| xStill Tryd.prog (sLoad 3 v28) v29 w29 <| xStill Tryd.prog (sLoad 3 v24) v25 w29 <| xStill Tryd.prog (sLoad 3 v20) v21 w29 <|
    xE Tryd.prog (sStore 63 v6 v34) w29 fun _ w30 => K v6 w30 := by
  have hd := kept_drew [] w
  have fl : ∀ (i : Nat) (x : RawV) (q : Nat) (X : TypeId) (uu : Value) (K : Value → Value → Prop), raws[i]? = some x → fieldB Tryd.prog 32 q q = true → oneB Tryd.prog X = true → (encV x)[q]? = some uu →
      (∀ A : Addr, (∀ w'', Kept [] w w'' → w''.cell? A = some uu) → K (.pointer (some A)) uu) →
      ∀ w', Kept [] w w' → (xP Tryd.prog (sIA 33 o (.int .i64 (i : Nat))) fun v => xP Tryd.prog (sFA 32 v q) fun c => xR Tryd.prog (sLoad X c) w' fun u => K c u) := by
    intro i x q X uu K hx hB hX hu hK w' hk'
    obtain ⟨hi, hxe⟩ := List.getElem?_eq_some_iff.1 hx
    exact rowV.fldA ho hk' hi hB hX (by rw [hxe]; exact hu) hK
  subst hr
  refine fl 0 xa 0 3 _ _ rfl (by kernel_rfl) ONE_3 rfl (fun A0 h0 => ?_) _ hd
  refine fl 1 xb 0 3 _ _ rfl (by kernel_rfl) ONE_3 rfl (fun A1 h1 => ?_) _ hd
  refine fl 2 xc 0 3 _ _ rfl (by kernel_rfl) ONE_3 rfl (fun A2 h2 => ?_) _ hd
  refine fl 3 xd 2 30 _ _ rfl (by kernel_rfl) ONE_30 rfl (fun A3 h3 => ?_) _ hd
  refine (xP_build (cells := (encBt ⟨xa.n, xb.n, xc.n, d.l⟩ xd.lv).toArray) (btBuild' vd.2.2)).2 ?_
  refine xE_alloc Z_63 fun w4 hb4 hk4 hz4 => ?_
  rw [show w.drew.heap.size = w.heap.size from rfl] at hb4 hz4 ⊢
  have hk04 : Kept [] w w4 := hd.then hk4 (by simp)
  refine (still1 ONE_30 (h3 _ hk04)).2 ?_
  refine (still1 ONE_3 (h2 _ hk04)).2 ?_
  refine (still1 ONE_3 (h1 _ hk04)).2 ?_
  refine (still1 ONE_3 (h0 _ hk04)).2 ?_
  refine xE_storeN (l1 := []) (l2 := encBt bt0 (.slice none 0 0)) (l3 := []) SZ_63 hb4 rfl rfl rfl (encBt_one vd.2.2.one) fun w5 hb5 hk5 hz5 => ?_
  refine k w5 ?_ (hk04.then hk5 (by simp))
  have := hb5
  rw [va.1, vb.1, vc.1] at this
  simpa [Value.cells] using this
def BGPost (w : World) (l : List UInt8) (r : Value) (w' : World) : Prop := Kept [] w w' ∧ ∃ vv, r = .tuple #[vBt (btOf (btGet l)) vv, optV (erOf (btGet l))] ∧ SlT w' encS vv (btOf (btGet l)).v ∧ (btOf (btGet l)).v.length ≤ 255
theorem bget_ok {l : List UInt8} {u : Value} {w : World} (hv : SlT w encB u l) (hbl : l.length ≤ 4611686018427387904) : Gives Tryd.prog 32 #[u] w fun r w' => BGPost w l r w' := by
  refine C_batch_Get ?_
  unfold S_batch_Get
  refine xE_alloc Z_63 fun w1 hb1 hk1 hz1 => ?_
  have hb1' : Blk w1 w.heap.size 63 (encBt bt0 (.slice none 0 0)) := hb1
  generalize eB : w.heap.size = B at *
  refine xE_call CF_57 bfields_ok ?_
  rintro fv w2 ⟨hfv, hk2⟩
  have hk02 : Kept [] w w2 := hk1.then hk2 (by simp)
  refine xE_call CF_18 (get_ok hfv btsmall (by simp [btFields]) (hv.kept0 hk02) hbl) ?_
  rintro r3 w3 ⟨hk3, hg⟩
  have hk03 : Kept [] w w3 := hk02.then hk3 (by simp)
  have hb3 : Blk w3 B 63 (encBt bt0 (.slice none 0 0)) := (hb1'.kept hk2 (by simp)).kept hk3 (by simp)
  have hz12 := hk2.size
  have bad : ∀ (e : Er) (w' : World), Kept [] w w' → Blk w' B 63 (encBt bt0 (.slice none 0 0)) → btGet l = .error (.flt opBG 0 e) →
      xE Tryd.prog (sCall 41 #[(.string (ByteArray.mk #[98, 97, 116, 99, 104, 46, 71, 101, 116])), (.int .i64 0), erV e]) w' fun v19 w12 =>
      xE Tryd.prog (sStore 63 (.pointer (some ⟨B, 0, none⟩)) (vBt bt0 (.slice none 0 0))) w12 fun _ w13 =>
      xR Tryd.prog (sLoad 63 (.pointer (some ⟨B, 0, none⟩))) w13 fun r14 => Ret (fun r w' => BGPost w l r w') (.returned (.tuple #[r14, v19])) w13 := by
    intro e w' hk' hb' he
    refine xE_call CF_41 wrapE_ok ?_
    rintro _ _ ⟨rfl, rfl⟩
    refine xE_storeN (l1 := []) (l2 := encBt bt0 (.slice none 0 0)) (l3 := []) SZ_63 hb' rfl rfl rfl (encBt_one rfl) fun w5 hb5 hk5 hz5 => ?_
    obtain ⟨L0, L1, L2, L3, L4⟩ := ldBt (b := bt0) (vv := .slice none 0 0) (by simpa [vBt, Value.cells] using hb5)
    simp only [L4]
    refine ⟨hk'.then hk5 (by simp; omega), .slice none 0 0, ?_, ?_⟩
    · rw [he]; rfl
    · rw [he]; exact ⟨SlT.nil_ _ _, by simp [btOf, bt0]⟩
  cases hgg : gramGet btFields l with
  | error q =>
    obtain ⟨i, k⟩ := q
    rw [hgg] at hg
    subst hg
    simp only [xP_ex0, xP_ex1]
    refine (xR_neqI IFE).2 ?_
    simp only [xP_nil, xP_pick, xP_func, xP_not, xP_add, xP_sub, xP_mul, xP_lss, xP_leq, xP_gtr, xP_geq, xP_max2, xP_min2, xR_eql, xR_neq, Nat.zero_add, Nat.add_zero, Nat.reduceAdd, List.getD_cons_zero, List.getD_cons_succ, xIf_true, xIf_false, FA_23_0, FA_23_1, FA_23_2, FA_23_3, FA_23_4, FA_32_0, FA_32_1, FA_32_2, FA_63_0, FA_63_1, FA_63_2, FA_63_3, FA_80_0, FA_80_1, FA_80_2, FA_85_0, FA_85_1, FA_85_2, LEN_24, LEN_25, LEN_30, LEN_33, LEN_58, LEN_82, LEN_134]
    refine (xP_build btBuild0).2 ?_
    exact bad (.flt opG i (.no k)) w3 hk03 hb3 (by unfold btGet; rw [hgg])
  | ok vs =>
    rw [hgg] at hg
    obtain ⟨o, raws, rfl, ho, hrow, hof, hlf, hlo⟩ := hg
    obtain ⟨a, b, c, d, rfl⟩ := row4 hgg
    have hsm := getRest_small (gramGet_ok hgg).1 d (by simp)
    obtain ⟨xa, xb, xc, xd, rfl, va, vb, vc, vd⟩ := row4V hrow
    have hfd := hlf xd (by simp)
    simp only [xP_ex0, xP_ex1]
    refine (xR_neqN IFE).2 ?_
    simp only [xIf_false]
    refine fourV rfl ho va vb vc vd fun w4 hb4 hk4 => ?_
    have hk04 := hk03.then hk4 (by simp)
    have hB3 : B < w3.heap.size := hb3.lt
    have hB4 := hb3.kept hk4 (by simp)
    generalize w3.heap.size = C at *
    obtain ⟨L0, L1, L2, L3, L4⟩ := ldBt hb4
    simp only [L4]
    have hvl : SlT w4 encS xd.lv d.l := vd.2.2.kept0 hk4
    refine brightS hvl (show d.l.length ≤ _ by omega) fun w5 hk5 => ?_
    have hk05 := hk04.then hk5 (by simp)
    have hget : btGet l = if (⟨a.n, b.n, c.n, d.l⟩ : Bt).right then .ok ⟨a.n, b.n, c.n, d.l⟩ else .error (.flt opBG 0 (.no 2)) := by unfold btGet; rw [hgg]
    simp only [xP_nil, xP_pick, xP_func, xP_not, xP_add, xP_sub, xP_mul, xP_lss, xP_leq, xP_gtr, xP_geq, xP_max2, xP_min2, xR_eql, xR_neq, Nat.zero_add, Nat.add_zero, Nat.reduceAdd, List.getD_cons_zero, List.getD_cons_succ, xIf_true, xIf_false, FA_23_0, FA_23_1, FA_23_2, FA_23_3, FA_23_4, FA_32_0, FA_32_1, FA_32_2, FA_63_0, FA_63_1, FA_63_2, FA_63_3, FA_80_0, FA_80_1, FA_80_2, FA_85_0, FA_85_1, FA_85_2, LEN_24, LEN_25, LEN_30, LEN_33, LEN_58, LEN_82, LEN_134, xIf_bool]
    refine ⟨fun hbad => ?_, fun hgood => ?_⟩
    · refine (xP_build btBuild0).2 ?_
      simp only [xP_iface CEN]
      exact bad (.no 2) w5 hk05 (hB4.kept hk5 (by simp)) (by rw [hget, if_neg (by simpa using hbad)])
    · obtain ⟨M0, M1, M2, M3, M4⟩ := ldBt (hb4.kept hk5 (by simp))
      simp only [M4]
      refine xE_storeN (l1 := []) (l2 := encBt bt0 (.slice none 0 0)) (l3 := []) SZ_63 (hB4.kept hk5 (by simp)) rfl rfl rfl (encBt_one hvl.one) fun w6 hb6 hk6 hz6 => ?_
      obtain ⟨N0, N1, N2, N3, N4⟩ := ldBt (b := ⟨a.n, b.n, c.n, d.l⟩) (vv := xd.lv) (by simpa [vBt, Value.cells] using hb6)
      simp only [N4]
      refine ⟨hk05.then hk6 (by simp; omega), xd.lv, ?_, ?_⟩
      · rw [hget, if_pos (by simpa using hgood)]; rfl
      · rw [hget, if_pos (by simpa using hgood)]
        refine ⟨(hvl.kept0 hk5).kept hk6 (fun bb oo n cc he hm => ?_), hsm⟩
        have := hfd bb oo n cc he
        simp at hm
        omega
theorem bgetS {l : List UInt8} {u : Value} {w : World} {K : Value → World → Prop} (hv : SlT w encB u l) (hbl : l.length ≤ 4611686018427387904) (k : ∀ vv w', SlT w' encS vv (btOf (btGet l)).v → (btOf (btGet l)).v.length ≤ 255 → Kept [] w w' → K (.tuple #[vBt (btOf (btGet l)) vv, optV (erOf (btGet l))]) w') : xE Tryd.prog (sCall 32 #[u]) w K :=
  xE_call CF_32 (bget_ok hv hbl) (fun r w' ⟨h1, vv, h2, h3, h4⟩ => by subst h2; exact k vv w' h3 h4 h1)
end Go.Proofs.YtclojjiiiejfpaaDoor
