import Derived.Test.YtclojjiiiejfpaaDoorXgBatch2
namespace Go.Proofs.YtclojjiiiejfpaaDoor
set_option linter.unusedSimpArgs false
set_option linter.unusedVariables false
set_option maxRecDepth 100000
attribute [local irreducible] Go.X.xE
open Go Go.X Go.RowKit

/-! ## The document's own batches -/
theorem dgrammar_ok {w : World} : Gives Tryd.prog 58 #[] w fun u w' => SlT w' encF u btFields ∧ Kept [] w w' := by
  refine C_staveref14_Grammar ?_
  unfold S_staveref14_Grammar
  refine (xP_build (cells := (encF ⟨1, 8, 0, 1125899906842624, 0⟩).toArray) (by kernel_rfl)).2 ?_
  refine (xP_build (cells := (encF ⟨1, 4, 0, 1048576, 0⟩).toArray) (by kernel_rfl)).2 ?_
  refine (xP_build (cells := (encF ⟨1, 8, 0, 1099511627776, 0⟩).toArray) (by kernel_rfl)).2 ?_
  refine (xP_build (cells := (encF ⟨3, 0, 1, 8, 60⟩).toArray) (by kernel_rfl)).2 ?_
  refine newFields (fs := btFields) rfl (by omega) (by omega) rfl fun u w' h hk => ?_
  exact ⟨h, hk⟩
def badB (b : Bt) : Bool :=
  if ((b.v.length : Nat) : Int) < 1 then true else if (8 : Int) < (b.v.length : Nat) then true else if b.t < 0 then true else if 1125899906842624 < b.t then true
  else if b.p < 0 then true else if 1048576 < b.p then true else if b.s < 0 then true else if 1099511627776 < b.s then true else if b.p = 0 then decide (b.s ≠ 0) else false
theorem right_bad (b : Bt) : b.right = (!badB b && decide (∀ x ∈ b.v, x.size ≤ 60)) := by
  rw [Bool.eq_iff_iff]
  unfold Bt.right
  rw [Bool.and_eq_true, Bt.fit_iff, Bool.or_eq_true, decide_eq_true_iff, decide_eq_true_iff, Bool.and_eq_true, decide_eq_true_iff]
  unfold badB
  constructor
  · rintro ⟨⟨h1, h2, h3, h4, h5, h6⟩, h7⟩
    refine ⟨?_, h6⟩
    rw [if_neg (by omega), if_neg (by omega), if_neg (by omega), if_neg (by omega), if_neg (by omega), if_neg (by omega), if_neg (by omega), if_neg (by omega)]
    split
    · rw [decide_eq_false (by omega)]; rfl
    · rfl
  · rintro ⟨hb, h6⟩
    split at hb
    · cases hb
    split at hb
    · cases hb
    split at hb
    · cases hb
    split at hb
    · cases hb
    split at hb
    · cases hb
    split at hb
    · cases hb
    split at hb
    · cases hb
    split at hb
    · cases hb
    refine ⟨⟨by omega, by omega, by omega, by omega, by omega, h6⟩, ?_⟩
    split at hb
    · simp at hb; exact .inr hb
    · omega
theorem dright4_ok {b : Bt} {vv : Value} {w : World} (h : SlT w encS vv b.v) (hl : b.v.length ≤ 9223372036854775806) : Gives Tryd.prog 36 #[vBt b vv] w fun u w' => u = .bool b.right ∧ Kept [] w w' := by
  refine C_staveref14_RightBatch ?_
  unfold S_staveref14_RightBatch
  refine xE_box fun w1 hb1 hk1 hz1 => ?_
  have hb1' : Blk w1 w.heap.size 63 (encBt b vv) := hb1
  obtain ⟨L0, L1, L2, L3, L4⟩ := ldBt hb1'
  obtain ⟨va, vc, rfl, hvc, hvr⟩ := h
  have h : SlT w encS (.slice va b.v.length vc) b.v := ⟨va, vc, rfl, hvc, hvr⟩
  refine xJoin_of (fun vs w' => vs = [.bool (badB b)] ∧ w1 = w') ?_ ?_
  · simp only [xP_nil, xP_pick, xP_func, xP_not, xP_add, xP_sub, xP_mul, xP_lss, xP_leq, xP_gtr, xP_geq, xP_max2, xP_min2, xR_eql, xR_neq, Nat.zero_add, Nat.add_zero, Nat.reduceAdd, List.getD_cons_zero, List.getD_cons_succ, xIf_true, xIf_false, FA_23_0, FA_23_1, FA_23_2, FA_23_3, FA_23_4, FA_32_0, FA_32_1, FA_32_2, FA_63_0, FA_63_1, FA_63_2, FA_63_3, FA_80_0, FA_80_1, FA_80_2, FA_85_0, FA_85_1, FA_85_2, LEN_24, LEN_25, LEN_30, LEN_33, LEN_58, LEN_82, LEN_134, L0, L1, L2, L3, xIf_dec]
    unfold badB
    refine ⟨fun a1 => ⟨by rw [if_pos a1], trivial⟩, fun a1 => ⟨fun a2 => ⟨by rw [if_neg a1, if_pos a2], trivial⟩, fun a2 => ⟨fun a3 => ⟨by rw [if_neg a1, if_neg a2, if_pos a3], trivial⟩, fun a3 =>
      ⟨fun a4 => ⟨by rw [if_neg a1, if_neg a2, if_neg a3, if_pos a4], trivial⟩, fun a4 => ⟨fun a5 => ⟨by rw [if_neg a1, if_neg a2, if_neg a3, if_neg a4, if_pos a5], trivial⟩, fun a5 =>
      ⟨fun a6 => ⟨by rw [if_neg a1, if_neg a2, if_neg a3, if_neg a4, if_neg a5, if_pos a6], trivial⟩, fun a6 => ⟨fun a7 => ⟨by rw [if_neg a1, if_neg a2, if_neg a3, if_neg a4, if_neg a5, if_neg a6, if_pos a7], trivial⟩, fun a7 =>
      ⟨fun a8 => ⟨by rw [if_neg a1, if_neg a2, if_neg a3, if_neg a4, if_neg a5, if_neg a6, if_neg a7, if_pos a8], trivial⟩, fun a8 =>
      ⟨fun a9 => ⟨by rw [if_neg a1, if_neg a2, if_neg a3, if_neg a4, if_neg a5, if_neg a6, if_neg a7, if_neg a8, if_pos a9], trivial⟩, fun a9 => ⟨by rw [if_neg a1, if_neg a2, if_neg a3, if_neg a4, if_neg a5, if_neg a6, if_neg a7, if_neg a8, if_neg a9], trivial⟩⟩⟩⟩⟩⟩⟩⟩⟩⟩
  rintro _ _ _ ⟨rfl, rfl⟩
  rw [right_bad]
  simp only [List.getD_cons_zero, xIf_bool]
  refine ⟨fun hbad => ⟨by rw [hbad]; rfl, hk1⟩, fun hok => ?_⟩
  rw [hok]
  simp only [xP_nil, xP_pick, xP_func, xP_not, xP_add, xP_sub, xP_mul, xP_lss, xP_leq, xP_gtr, xP_geq, xP_max2, xP_min2, xR_eql, xR_neq, Nat.zero_add, Nat.add_zero, Nat.reduceAdd, List.getD_cons_zero, List.getD_cons_succ, xIf_true, xIf_false, FA_23_0, FA_23_1, FA_23_2, FA_23_3, FA_23_4, FA_32_0, FA_32_1, FA_32_2, FA_63_0, FA_63_1, FA_63_2, FA_63_3, FA_80_0, FA_80_1, FA_80_2, FA_85_0, FA_85_1, FA_85_2, LEN_24, LEN_25, LEN_30, LEN_33, LEN_58, LEN_82, LEN_134, L3, Bool.not_false, Bool.true_and]
  refine xLoop_of (fun ls w' => ∃ i : Nat, ls = [.int .i64 i] ∧ i ≤ b.v.length ∧ (∀ x ∈ b.v.take i, x.size ≤ 60) ∧ w1 = w') (fun ls _ => match ls with | [.int _ i] => b.v.length - i.toNat | _ => 0) ⟨0, rfl, by omega, by simp, rfl⟩ ?_
  rintro _ _ _ ⟨i, rfl, hi, hall, rfl⟩
  simp only [xP_nil, xP_pick, xP_func, xP_not, xP_add, xP_sub, xP_mul, xP_lss, xP_leq, xP_gtr, xP_geq, xP_max2, xP_min2, xR_eql, xR_neq, Nat.zero_add, Nat.add_zero, Nat.reduceAdd, List.getD_cons_zero, List.getD_cons_succ, xIf_true, xIf_false, FA_23_0, FA_23_1, FA_23_2, FA_23_3, FA_23_4, FA_32_0, FA_32_1, FA_32_2, FA_63_0, FA_63_1, FA_63_2, FA_63_3, FA_80_0, FA_80_1, FA_80_2, FA_85_0, FA_85_1, FA_85_2, LEN_24, LEN_25, LEN_30, LEN_33, LEN_58, LEN_82, LEN_134, xIf_dec]
  refine ⟨fun hlt => ?_, fun hge => ?_⟩
  · have hlt' : i < b.v.length := by omega
    refine (rowS.get (h.kept0 hk1) (Kept.refl _ _) hlt').2 ?_
    simp only [xP_lenS STR, xP_nil, xP_pick, xP_func, xP_not, xP_add, xP_sub, xP_mul, xP_lss, xP_leq, xP_gtr, xP_geq, xP_max2, xP_min2, xR_eql, xR_neq, Nat.zero_add, Nat.add_zero, Nat.reduceAdd, List.getD_cons_zero, List.getD_cons_succ, xIf_true, xIf_false, FA_23_0, FA_23_1, FA_23_2, FA_23_3, FA_23_4, FA_32_0, FA_32_1, FA_32_2, FA_63_0, FA_63_1, FA_63_2, FA_63_3, FA_80_0, FA_80_1, FA_80_2, FA_85_0, FA_85_1, FA_85_2, LEN_24, LEN_25, LEN_30, LEN_33, LEN_58, LEN_82, LEN_134, xIf_dec]
    refine ⟨fun hbig => ⟨?_, hk1⟩, fun hs => ?_⟩
    · rw [decide_eq_false]
      intro hh
      have := hh _ (List.getElem_mem hlt')
      omega
    · rw [wrap64 (by omega) (by omega)]
      refine ⟨⟨i + 1, rfl, hlt', ?_, trivial⟩, by omega⟩
      intro x hx
      rw [List.take_succ_eq_append_getElem hlt'] at hx
      rcases List.mem_append.1 hx with hx | hx
      · exact hall x hx
      · simp at hx; subst hx; omega
  · obtain rfl : i = b.v.length := by omega
    rw [List.take_length] at hall
    exact ⟨by rw [decide_eq_true hall], hk1⟩
theorem dPut4_ok {b : Bt} {vv : Value} {w : World} (h : SlT w encS vv b.v) (hl : b.v.length ≤ 9223372036854775806) : Gives Tryd.prog 37 #[vBt b vv] w fun u w' => Fresh w w' u b.bytes := by
  refine C_staveref14_PutBatch ?_
  unfold S_staveref14_PutBatch
  refine xE_box fun w1 hb1 hk1 hz1 => ?_
  have hb1' : Blk w1 w.heap.size 63 (encBt b vv) := hb1
  generalize eB : w.heap.size = B at *
  obtain ⟨L0, L1, L2, L3, L4⟩ := ldBt hb1'
  simp only [L4]
  refine xE_call CF_36 (dright4_ok (h.kept0 hk1) hl) ?_
  rintro _ w2 ⟨rfl, hk2⟩
  have hk02 := hk1.then hk2 (by simp)
  have hb2 := hb1'.kept hk2 (by simp)
  simp only [xP_not, xIf_bool]
  refine ⟨fun hno => ?_, fun hyes => ?_⟩
  · rw [Bt.bytes_not (by simpa using hno)]
    exact ⟨[], own_nil _ _ _, by simp, hk02⟩
  have hg := right_put4 (b := b) (by simpa using hyes)
  have hd := kept_drew [] w2
  refine xJoin_of (fun ls w' => ∃ u, ls = [u] ∧ Fresh w w' u b.bytes) ?_ ?_
  · obtain ⟨M0, M1, M2, M3, M4⟩ := ldBt (blk_drew hb2)
    simp only [xP_nil, xP_pick, xP_func, xP_not, xP_add, xP_sub, xP_mul, xP_lss, xP_leq, xP_gtr, xP_geq, xP_max2, xP_min2, xR_eql, xR_neq, Nat.zero_add, Nat.add_zero, Nat.reduceAdd, List.getD_cons_zero, List.getD_cons_succ, xIf_true, xIf_false, FA_23_0, FA_23_1, FA_23_2, FA_23_3, FA_23_4, FA_32_0, FA_32_1, FA_32_2, FA_63_0, FA_63_1, FA_63_2, FA_63_3, FA_80_0, FA_80_1, FA_80_2, FA_85_0, FA_85_1, FA_85_2, LEN_24, LEN_25, LEN_30, LEN_33, LEN_58, LEN_82, LEN_134, M0, M1, M2, M3]
    refine (xP_build buildN).2 ?_
    refine (xP_build buildN).2 ?_
    refine (xP_build buildN).2 ?_
    refine (xP_build (buildLV' h)).2 ?_
    have fin : ∀ (fv uv : Value) (w' : World), Kept [] w2 w' → SlT w' encF fv btFields → SlT w' encV uv (btRaws b vv) →
        xE Tryd.prog (sCall 25 #[fv, uv]) w' fun v24 w25 => xP Tryd.prog (sExtract v24 0) fun v25 => xP Tryd.prog (sExtract v24 1) fun _ => xP Tryd.prog (sExtract v24 2) fun _ => (fun (ls : List Value) w' => ∃ u, ls = [u] ∧ Fresh w w' u b.bytes) [v25] w25 := by
      intro fv uv w' hk' hf hv
      have hk0 := hk02.then hk' (by simp)
      have hrow := btRow (b := b) (h.kept0 hk0)
      refine xE_call CF_25 (dput_ok (vs := b.vals) hf btsmall (by simp [btFields]) hv hrow.1 hrow.2 (by simp [Bt.vals]) (btVals_small hl)) ?_
      intro r w'' hp
      unfold DPutPost at hp
      rw [hg] at hp
      obtain ⟨u, rfl, hfr⟩ := hp
      simp only [xP_t0, xP_t1, xP_t2]
      exact ⟨u, rfl, hfr.after hk0⟩
    refine ⟨?_, ?_⟩
    · refine xE_call CF_58 dgrammar_ok ?_
      rintro fv w3 ⟨hf, hk3⟩
      have hb3 := (blk_drew hb2).kept hk3 (by simp)
      refine (still1 ONE_30 (v := vv) (hb3.cell (o := 3))).2 ?_
      refine (still1 ONE_3 (hb3.cell (o := 2))).2 ?_
      refine (still1 ONE_3 (hb3.cell (o := 1))).2 ?_
      refine (still1 ONE_3 (hb3.cell (o := 0))).2 ?_
      refine newBtVals (b := b) (vv := vv) fun uv w4 hv hk4 => ?_
      exact fin fv uv w4 ((hd.then hk3 (by simp)).then hk4 (by simp)) (hf.kept0 hk4) hv
    · refine newBtVals (b := b) (vv := vv) fun uv w3 hv hk3 => ?_
      refine xE_call CF_58 dgrammar_ok ?_
      rintro fv w4 ⟨hf, hk4⟩
      exact fin fv uv w4 ((hd.then hk3 (by simp)).then hk4 (by simp)) hf (hv.kept0 hk4)
  rintro _ _ w3 ⟨u, rfl, hfr⟩
  exact hfr
theorem dPut4S {b : Bt} {vv : Value} {w : World} {K : Value → World → Prop} (h : SlT w encS vv b.v) (hl : b.v.length ≤ 9223372036854775806) (k : ∀ u w', SlT w' encB u b.bytes → Kept [] w w' → K u w') : xE Tryd.prog (sCall 37 #[vBt b vv]) w K :=
  xE_call CF_37 (dPut4_ok h hl) (fun u w' hf => k u w' hf.slT hf.keptI)
theorem dright4S {b : Bt} {vv : Value} {w : World} {K : Value → World → Prop} (h : SlT w encS vv b.v) (hl : b.v.length ≤ 9223372036854775806) (k : ∀ w', Kept [] w w' → K (.bool b.right) w') : xE Tryd.prog (sCall 36 #[vBt b vv]) w K :=
  xE_call CF_36 (dright4_ok h hl) (fun u w' ⟨h1, h2⟩ => by subst h1; exact k w' h2)
def DBGPost (w : World) (l : List UInt8) (r : Value) (w' : World) : Prop := Kept [] w w' ∧ ∃ vv, r = .tuple #[vBt (btOf (btGet l)) vv, .int .i64 (optKind (erOf (btGet l)))] ∧ SlT w' encS vv (btOf (btGet l)).v ∧ (btOf (btGet l)).v.length ≤ 255
theorem dbget_ok {l : List UInt8} {u : Value} {w : World} (hv : SlT w encB u l) (hbl : l.length ≤ 4611686018427387904) : Gives Tryd.prog 38 #[u] w fun r w' => DBGPost w l r w' := by
  refine C_staveref14_GetBatch ?_
  unfold S_staveref14_GetBatch
  refine xE_alloc Z_63 fun w1 hb1 hk1 hz1 => ?_
  have hb1' : Blk w1 w.heap.size 63 (encBt bt0 (.slice none 0 0)) := hb1
  generalize eB : w.heap.size = B at *
  refine xE_call CF_58 dgrammar_ok ?_
  rintro fv w2 ⟨hfv, hk2⟩
  have hk02 : Kept [] w w2 := hk1.then hk2 (by simp)
  refine xE_call CF_28 (dget_ok hfv btsmall (by simp [btFields]) (hv.kept0 hk02) hbl) ?_
  rintro r3 w3 ⟨hk3, hg⟩
  have hk03 : Kept [] w w3 := hk02.then hk3 (by simp)
  have hb3 : Blk w3 B 63 (encBt bt0 (.slice none 0 0)) := (hb1'.kept hk2 (by simp)).kept hk3 (by simp)
  have hz12 := hk2.size
  have bad : ∀ (e : Er) (k : Int) (w' : World), Kept [] w w' → Blk w' B 63 (encBt bt0 (.slice none 0 0)) → btGet l = .error e → k = e.kind →
      xP Tryd.prog (sBuild 63 #[]) fun v => xE Tryd.prog (sStore 63 (.pointer (some ⟨B, 0, none⟩)) v) w' fun _ w13 =>
      xR Tryd.prog (sLoad 63 (.pointer (some ⟨B, 0, none⟩))) w13 fun r14 => Ret (fun r w' => DBGPost w l r w') (.returned (.tuple #[r14, .int .i64 k])) w13 := by
    intro e k w' hk' hb' he hke
    refine (xP_build btBuild0).2 ?_
    refine xE_storeN (l1 := []) (l2 := encBt bt0 (.slice none 0 0)) (l3 := []) SZ_63 hb' rfl rfl rfl (encBt_one rfl) fun w5 hb5 hk5 hz5 => ?_
    obtain ⟨L0, L1, L2, L3, L4⟩ := ldBt (b := bt0) (vv := .slice none 0 0) (by simpa [vBt, bt0, Value.cells] using hb5)
    simp only [L4]
    refine ⟨hk'.then hk5 (by simp; omega), .slice none 0 0, ?_, ?_⟩
    · rw [he, hke]; rfl
    · rw [he]; exact ⟨SlT.nil_ _ _, by simp [btOf, bt0]⟩
  cases hgg : gramGet btFields l with
  | error q =>
    obtain ⟨i, k⟩ := q
    rw [hgg] at hg
    obtain ⟨rfl, hne⟩ := hg
    simp only [xP_t0, xP_t1, xP_t2]
    simp only [xR_neq, ne_eq, hne, not_false_eq_true, decide_true, xIf_true]
    exact bad (.flt opBG 0 (.flt opG i (.no k))) k w3 hk03 hb3 (by unfold btGet; rw [hgg]) rfl
  | ok vs =>
    rw [hgg] at hg
    obtain ⟨o, raws, rfl, ho, hrow, hlf, hlo⟩ := hg
    obtain ⟨a, b, c, d, rfl⟩ := row4 hgg
    have hsm := getRest_small (gramGet_ok hgg).1 d (by simp)
    obtain ⟨xa, xb, xc, xd, rfl, va, vb, vc, vd⟩ := row4V hrow
    have hfd := hlf xd (by simp)
    simp only [xP_t0, xP_t1, xP_t2]
    simp only [xR_neq, show decide ((0 : Int) ≠ 0) = false from rfl, xIf_false]
    refine fourV rfl ho va vb vc vd fun w4 hb4 hk4 => ?_
    have hk04 := hk03.then hk4 (by simp)
    have hB3 : B < w3.heap.size := hb3.lt
    have hB4 := hb3.kept hk4 (by simp)
    generalize w3.heap.size = C at *
    obtain ⟨L0, L1, L2, L3, L4⟩ := ldBt hb4
    simp only [L4]
    have hvl : SlT w4 encS xd.lv d.l := vd.2.2.kept0 hk4
    refine dright4S hvl (show d.l.length ≤ _ by omega) fun w5 hk5 => ?_
    have hk05 := hk04.then hk5 (by simp)
    have hget : btGet l = if (⟨a.n, b.n, c.n, d.l⟩ : Bt).right then .ok ⟨a.n, b.n, c.n, d.l⟩ else .error (.flt opBG 0 (.no 2)) := by unfold btGet; rw [hgg]
    simp only [xP_not, xIf_bool]
    refine ⟨fun hbad => ?_, fun hgood => ?_⟩
    · exact bad (.flt opBG 0 (.no 2)) 2 w5 hk05 (hB4.kept hk5 (by simp)) (by rw [hget, if_neg (by simpa using hbad)]) rfl
    · obtain ⟨M0, M1, M2, M3, M4⟩ := ldBt (hb4.kept hk5 (by simp))
      simp only [M4]
      refine xE_storeN (l1 := []) (l2 := encBt bt0 (.slice none 0 0)) (l3 := []) SZ_63 (hB4.kept hk5 (by simp)) rfl rfl rfl (encBt_one hvl.one) fun w6 hb6 hk6 hz6 => ?_
      obtain ⟨N0, N1, N2, N3, N4⟩ := ldBt (b := ⟨a.n, b.n, c.n, d.l⟩) (vv := xd.lv) (by simpa [vBt, Value.cells] using hb6)
      simp only [N4]
      refine ⟨hk05.then hk6 (by simp; omega), xd.lv, ?_, ?_⟩
      · rw [hget, if_pos (by simpa using hgood)]; rfl
      · rw [hget, if_pos (by simpa using hgood)]
        refine ⟨(hvl.kept0 hk5).kept hk6 (fun bb oo n cc he hm => ?_), hsm⟩
        have := hfd bb oo n cc he
        simp at hm
        omega
theorem dbgetS {l : List UInt8} {u : Value} {w : World} {K : Value → World → Prop} (hv : SlT w encB u l) (hbl : l.length ≤ 4611686018427387904) (k : ∀ vv w', SlT w' encS vv (btOf (btGet l)).v → (btOf (btGet l)).v.length ≤ 255 → Kept [] w w' → K (.tuple #[vBt (btOf (btGet l)) vv, .int .i64 (optKind (erOf (btGet l)))]) w') : xE Tryd.prog (sCall 38 #[u]) w K :=
  xE_call CF_38 (dbget_ok hv hbl) (fun r w' ⟨h1, vv, h2, h3, h4⟩ => by subst h2; exact k vv w' h3 h4 h1)
end Go.Proofs.YtclojjiiiejfpaaDoor
