import Derived.Test.YtclojjiiiejfpaaDoorXgBatch3
import Derived.Test.YtclojjiiiejfpaaDoorXgGramL6
namespace Go.Proofs.YtclojjiiiejfpaaDoor
set_option linter.unusedSimpArgs false
set_option linter.unusedVariables false
set_option maxRecDepth 100000
attribute [local irreducible] Go.X.xE
open Go Go.X Go.RowKit

/-! ## What the statements of the batches use -/
theorem same4_ok {b c : Bt} {bv cv : Value} {w : World} (hb : SlT w encS bv b.v) (hc : SlT w encS cv c.v) (hl : b.v.length ≤ 9223372036854775806) :
    Gives Tryd.prog 39 #[vBt b bv, vBt c cv] w fun u w' => u = .bool (decide (b = c)) ∧ Kept [] w w' := by
  refine C_stavelaw15_same ?_
  unfold S_stavelaw15_same
  refine xE_box fun w1 hb1 hk1 hz1 => ?_
  refine xE_box fun w2 hb2 hk2 hz2 => ?_
  have hb1' : Blk w2 w.heap.size 63 (encBt b bv) := Blk.kept hb1 hk2 (by simp)
  have hb2' : Blk w2 w1.heap.size 63 (encBt c cv) := hb2
  obtain ⟨L0, L1, L2, L3, L4⟩ := ldBt hb1'
  obtain ⟨M0, M1, M2, M3, M4⟩ := ldBt hb2'
  have hk02 := hk1.then hk2 (by simp)
  obtain ⟨bt, bp, bs, bl⟩ := b
  obtain ⟨ct, cp, cs, cl⟩ := c
  simp only [xP_nil, xP_pick, xP_func, xP_not, xP_add, xP_sub, xP_mul, xP_lss, xP_leq, xP_gtr, xP_geq, xP_max2, xP_min2, xR_eql, xR_neq, Nat.zero_add, Nat.add_zero, Nat.reduceAdd, List.getD_cons_zero, List.getD_cons_succ, xIf_true, xIf_false, FA_23_0, FA_23_1, FA_23_2, FA_23_3, FA_23_4, FA_32_0, FA_32_1, FA_32_2, FA_63_0, FA_63_1, FA_63_2, FA_63_3, FA_80_0, FA_80_1, FA_80_2, FA_85_0, FA_85_1, FA_85_2, LEN_24, LEN_25, LEN_30, LEN_33, LEN_58, LEN_82, LEN_134, L0, L1, L2, L3, M0, M1, M2, M3, xIf_dec]
  refine ⟨fun h1 => ⟨fun h2 => ⟨fun h3 => ?_, fun h3 => ⟨?_, hk02⟩⟩, fun h2 => ⟨?_, hk02⟩⟩, fun h1 => ⟨?_, hk02⟩⟩
  · have h1 : bt = ct := h1
    have h2 : bp = cp := h2
    have h3 : bs = cs := h3
    subst h1; subst h2; subst h3
    refine xE_call CF_55 (sameS_ok (hb.kept0 hk02) (hc.kept0 hk02) hl) ?_
    rintro _ w3 ⟨rfl, hk3⟩
    refine ⟨?_, hk02.then hk3 (by simp)⟩
    simp
  · rw [decide_eq_false]; intro h; cases h; exact h3 rfl
  · rw [decide_eq_false]; intro h; cases h; exact h2 rfl
  · rw [decide_eq_false]; intro h; cases h; exact h1 rfl
theorem same4S {b c : Bt} {bv cv : Value} {w : World} {K : Value → World → Prop} (hb : SlT w encS bv b.v) (hc : SlT w encS cv c.v) (hl : b.v.length ≤ 9223372036854775806) (k : ∀ w', Kept [] w w' → K (.bool (decide (b = c))) w') : xE Tryd.prog (sCall 39 #[vBt b bv, vBt c cv]) w K :=
  xE_call CF_39 (same4_ok hb hc hl) (fun u w' ⟨h1, h2⟩ => by subst h1; exact k w' h2)
def fewB (b : Bt) : Bt := ⟨b.t, b.p, b.s, (b.v.take 10).map (gcut 70)⟩
theorem fewB_len (b : Bt) : (fewB b).v.length ≤ 10 := by simp [fewB]; omega
theorem few4_ok {b : Bt} {vv : Value} {w : World} (h : SlT w encS vv b.v) : Gives Tryd.prog 34 #[vBt b vv] w fun u w' => ∃ vv', u = vBt (fewB b) vv' ∧ SlT w' encS vv' (fewB b).v ∧ Kept [] w w' ∧ Fr w.heap.size vv' ∧ Lt w'.heap.size vv' := by
  refine C_stavelaw15_few ?_
  unfold S_stavelaw15_few
  refine xE_box fun w1 hb1 hk1 hz1 => ?_
  have hb1' : Blk w1 w.heap.size 63 (encBt b vv) := hb1
  generalize eV : w.heap.size = V at *
  refine xE_alloc Z_63 fun w2 hb2 hk2 hz2 => ?_
  have hb2' : Blk w2 w1.heap.size 63 (encBt bt0 (.slice none 0 0)) := hb2
  have hb12 := hb1'.kept hk2 (by simp)
  have hk02 := hk1.then hk2 (by simp)
  generalize eR : w1.heap.size = R at *
  obtain ⟨va, vc, rfl, hvc, hvr⟩ := h
  have h : SlT w encS (.slice va b.v.length vc) b.v := ⟨va, vc, rfl, hvc, hvr⟩
  refine xLoop_of (fun ls w' => ∃ (i : Nat) (o : Value) (F : List Nat), ls = [o, .int .i64 i] ∧ i ≤ b.v.length ∧ i ≤ 10 ∧ Own w' 9 1 o ((b.v.take i).map (gcut 70)).length (((b.v.take i).map (gcut 70)).flatMap encS) F ∧ (∀ g ∈ F, R + 1 ≤ g) ∧ Kept [] w2 w')
    (fun ls _ => match ls with | [_, .int _ i] => 10 - i.toNat | _ => 0) ⟨0, .slice none 0 0, [], rfl, by omega, by omega, own_nil _ _ _, by simp, Kept.refl _ _⟩ ?_
  rintro _ _ w3 ⟨i, o, F, rfl, hi, hi10, ho, hF, hk3⟩
  have hb3 := hb12.kept hk3 (by simp)
  have hk03 := hk02.then hk3 (by simp)
  have hz3 := hk3.size
  obtain ⟨L0, L1, L2, L3, L4⟩ := ldBt hb3
  have hlen : ((b.v.take i).map (gcut 70)).length = i := by simp; omega
  refine xJoin_of (fun vs w' => vs = [.bool (decide (i < b.v.length ∧ i < 10))] ∧ w3 = w') ?_ ?_
  · simp only [xP_nil, xP_pick, xP_func, xP_not, xP_add, xP_sub, xP_mul, xP_lss, xP_leq, xP_gtr, xP_geq, xP_max2, xP_min2, xR_eql, xR_neq, Nat.zero_add, Nat.add_zero, Nat.reduceAdd, List.getD_cons_zero, List.getD_cons_succ, xIf_true, xIf_false, FA_23_0, FA_23_1, FA_23_2, FA_23_3, FA_23_4, FA_32_0, FA_32_1, FA_32_2, FA_63_0, FA_63_1, FA_63_2, FA_63_3, FA_80_0, FA_80_1, FA_80_2, FA_85_0, FA_85_1, FA_85_2, LEN_24, LEN_25, LEN_30, LEN_33, LEN_58, LEN_82, LEN_134, L3, xIf_dec]
    refine ⟨fun h1 => ⟨by rw [decide_eq_decide.2 (show ((i : Int) < 10) ↔ (i < b.v.length ∧ i < 10) by omega)], trivial⟩, fun h1 => ⟨by rw [decide_eq_false (show ¬ (i < b.v.length ∧ i < 10) by omega)], trivial⟩⟩
  rintro _ _ _ ⟨rfl, rfl⟩
  simp only [List.getD_cons_zero, List.getD_cons_succ, xIf_dec]
  refine ⟨fun hgo => ?_, fun hstop => ?_⟩
  · have hd := kept_drew [] w3
    obtain ⟨M0, M1, M2, M3, M4⟩ := ldBt (blk_drew hb3)
    have hiv := hgo.1
    simp only [xP_nil, xP_pick, xP_func, xP_not, xP_add, xP_sub, xP_mul, xP_lss, xP_leq, xP_gtr, xP_geq, xP_max2, xP_min2, xR_eql, xR_neq, Nat.zero_add, Nat.add_zero, Nat.reduceAdd, List.getD_cons_zero, List.getD_cons_succ, xIf_true, xIf_false, FA_23_0, FA_23_1, FA_23_2, FA_23_3, FA_23_4, FA_32_0, FA_32_1, FA_32_2, FA_63_0, FA_63_1, FA_63_2, FA_63_3, FA_80_0, FA_80_1, FA_80_2, FA_85_0, FA_85_1, FA_85_2, LEN_24, LEN_25, LEN_30, LEN_33, LEN_58, LEN_82, LEN_134, M3]
    refine (rowS.get h (hk03.then hd (by simp)) hiv).2 ?_
    refine (rowS.get h (hk03.then hd (by simp)) hiv).2 ?_
    have e2 : ((b.v.take (i + 1)).map (gcut 70)) = (b.v.take i).map (gcut 70) ++ [gcut 70 b.v[i]] := by
      rw [List.take_succ_eq_append_getElem hiv, List.map_append]; rfl
    generalize b.v[i] = s at *
    refine (takeS (k := 70) (by omega)).2 ?_
    refine oneS fun sv w4 hs4 hk4 => ?_
    have hk34 := hd.then hk4 (by simp)
    have hz4 := hk34.size
    refine appS (ho.kept hk34 (by simp)) hs4 (by omega) fun o' w5 F' ho' hF' hk5 => ?_
    rw [wrap64 (by omega) (by omega)]
    refine ⟨⟨i + 1, o', F', rfl, by omega, by omega, by rw [e2]; exact ho', fun g hg => (hF' g hg).elim (hF g) (fun h => by omega), (hk3.then hk34 (by simp)).then hk5 (fun g hg => .inr (by have := hF g hg; omega))⟩, by omega⟩
  · have e10 : (b.v.take i) = b.v.take 10 := by
      rcases Nat.lt_or_ge i b.v.length with hlt | hge
      · have : i = 10 := by omega
        rw [this]
      · rw [List.take_of_length_le hge, List.take_of_length_le (by omega)]
    have hone : o.oneCell' = true := by obtain ⟨_, _, e, _⟩ := ho.slice; rw [e]; rfl
    try simp only [xP_nil, xP_pick, xP_func, xP_not, xP_add, xP_sub, xP_mul, xP_lss, xP_leq, xP_gtr, xP_geq, xP_max2, xP_min2, xR_eql, xR_neq, Nat.zero_add, Nat.add_zero, Nat.reduceAdd, List.getD_cons_zero, List.getD_cons_succ, xIf_true, xIf_false, FA_23_0, FA_23_1, FA_23_2, FA_23_3, FA_23_4, FA_32_0, FA_32_1, FA_32_2, FA_63_0, FA_63_1, FA_63_2, FA_63_3, FA_80_0, FA_80_1, FA_80_2, FA_85_0, FA_85_1, FA_85_2, LEN_24, LEN_25, LEN_30, LEN_33, LEN_58, LEN_82, LEN_134]
    refine xE_store1 SZ_30 hb3 (by simp [encBt]) hone fun w4 hb4 hk4 hz4 => ?_
    have hb4' : Blk w4 V 63 (encBt (fewB b) o) := by simpa [encBt, fewB] using hb4
    obtain ⟨N0, N1, N2, N3, N4⟩ := ldBt hb4'
    simp only [N4]
    refine xE_storeN (l1 := []) (l2 := encBt bt0 (.slice none 0 0)) (l3 := []) SZ_63 ((hb2'.kept hk3 (by simp)).kept hk4 (by simp; omega)) rfl rfl rfl (encBt_one hone) fun w5 hb5 hk5 hz5 => ?_
    obtain ⟨O0, O1, O2, O3, O4⟩ := ldBt (b := fewB b) (vv := o) (by simpa [vBt, Value.cells] using hb5)
    simp only [O4]
    have hk35 : Kept [V, R] w3 w5 := (hk4.mono (by simp)).then hk5 (by simp)
    have ho5 := ho.kept hk35 (fun g hg hm => by have := hF g hg; simp at hm; omega)
    refine ⟨o, rfl, ?_, hk03.then hk35 (by intro k hk; simp at hk; rcases hk with rfl | rfl <;> (right; omega)), fun bb oo n cc he => ?_, fun bb oo n cc he => ?_⟩
    · have := ho5.slT encS_len (by omega)
      rw [e10] at this
      exact this
    · have := hF _ (ho.addr bb oo n cc he); omega
    · have := ho5.lt _ (ho5.addr bb oo n cc he); omega
theorem few4S {b : Bt} {vv : Value} {w : World} {K : Value → World → Prop} (h : SlT w encS vv b.v) (k : ∀ vv' w', SlT w' encS vv' (fewB b).v → Kept [] w w' → Fr w.heap.size vv' → Lt w'.heap.size vv' → K (vBt (fewB b) vv') w') : xE Tryd.prog (sCall 34 #[vBt b vv]) w K :=
  xE_call CF_34 (few4_ok h) (fun u w' ⟨vv', h1, h2, h3, h4, h5⟩ => by subst h1; exact k vv' w' h2 h3 h4 h5)

/-! ## BatchRuns -/
def bt1 : Bt := ⟨1, 2, 3, [⟨#[97]⟩]⟩
def bt2 : Bt := ⟨0, 0, 0, [⟨#[97, 98]⟩]⟩
theorem bt1_bytes : bt1.bytes = [1, 0, 0, 0, 0, 0, 0, 0, 2, 0, 0, 0, 3, 0, 0, 0, 0, 0, 0, 0, 1, 1, 0, 97] := by kernel_rfl
theorem bt2_len : bt2.bytes.length = 25 := by kernel_rfl
theorem bt1_cut : btGet (bt1.bytes.take 23) = .error (.flt opBG 0 (.flt opG 20 (.no 3))) := by kernel_rfl
theorem btBuild3 {p : Option Addr} {n m : Nat} {l : List ByteArray} : Tryd.prog.built 63 #[(3, Value.slice p n m)].toList = some (encBt ⟨0, 0, 0, l⟩ (.slice p n m)).toArray := by kernel_rfl
theorem oneSe {s : ByteArray} {w : World} {K : Value → World → Prop} (k : ∀ w', SlT w' encS (.slice (some ⟨w.heap.size, 0, none⟩) 1 1) [s] → Kept [] w w' → K (.slice (some ⟨w.heap.size, 0, none⟩) 1 1) w') : xE Tryd.prog (sBuildSlice 30 1 #[(0, .string s)]) w K :=
  xE_buildSlice EL_30 [.string s] rfl rfl (by simp [Value.cells]) (by omega) (by omega) fun w' hb hk _ => k _ (slT_blk (l := [s]) hb) hk
theorem btOf_small {l : List UInt8} : Er.plain4 (match btGet l with | .error e => e | .ok _ => .no 0) = true := by
  cases h : btGet l with
  | error e => exact (btGet_err h).1
  | ok b => rfl
theorem plain_of : ∀ {e : Er}, Er.plain4 e = true → Er.plain e
  | .no _, _ => trivial
  | .loss _ _ _, h => by cases h
  | .flt _ _ e, h => plain_of (e := e) h
theorem erOf_plain {l : List UInt8} : ∀ x, erOf (btGet l) = some x → Er.plain x := by
  intro x hx
  cases h : btGet l with
  | error e => rw [h] at hx; cases hx; exact plain_of (btGet_err h).1
  | ok b => rw [h] at hx; cases hx
theorem batchRuns_ok {w : World} (hgl : Glob w) : Gives Tryd.prog 11 #[] w fun u w' => u = .bool true ∧ Kept [] w w' := by
  refine C_stavelaw15_BatchRuns ?_
  unfold S_stavelaw15_BatchRuns
  refine oneSe fun w1 hs1 hk1 => ?_
  refine (xP_build (cells := (encBt bt1 (.slice (some ⟨w.heap.size, 0, none⟩) 1 1)).toArray) btBuild).2 ?_
  refine bPutS (b := bt1) hs1 (by simp [bt1]) fun pv w2 hp2 hk2 => ?_
  have hk02 := hk1.then hk2 (by simp)
  have hl : bt1.bytes.length = 24 := by rw [bt1_bytes]; rfl
  obtain ⟨pa, pc, rfl, q1, q2⟩ := hp2
  have hp2 : SlT w2 encB (.slice pa bt1.bytes.length pc) bt1.bytes := ⟨pa, pc, rfl, q1, q2⟩
  refine xJoin_of (fun ls w' => ls = [.bool false] ∧ Kept [] w2 w') ?_ ?_
  · rw [hl]
    simp only [xP_nil, xP_pick, xP_func, xP_not, xP_add, xP_sub, xP_mul, xP_lss, xP_leq, xP_gtr, xP_geq, xP_max2, xP_min2, xR_eql, xR_neq, Nat.zero_add, Nat.add_zero, Nat.reduceAdd, List.getD_cons_zero, List.getD_cons_succ, xIf_true, xIf_false, FA_23_0, FA_23_1, FA_23_2, FA_23_3, FA_23_4, FA_32_0, FA_32_1, FA_32_2, FA_63_0, FA_63_1, FA_63_2, FA_63_3, FA_80_0, FA_80_1, FA_80_2, FA_85_0, FA_85_1, FA_85_2, LEN_24, LEN_25, LEN_30, LEN_33, LEN_58, LEN_82, LEN_134]
    rw [decide_eq_false (show ¬ ((24 : Nat) : Int) ≠ 24 by decide)]
    simp only [xIf_false]
    have hp2' : SlT w2 encB (.slice pa 24 pc) bt1.bytes := by rw [hl] at hp2; exact hp2
    refine (rowB.get hp2' (Kept.refl _ _) (i := 0) (by omega)).2 ?_
    have e0 : (bt1.bytes[0]'(by omega)) = 1 := by simp only [bt1_bytes]; rfl
    rw [e0]
    simp only [xR_neq, show decide ((((1 : UInt8).toNat : Nat) : Int) ≠ 1) = false from rfl, xIf_false]
    refine (xP_from SL_25 SZ_5 (by omega) (by omega)).2 ?_
    have hfrom : SlT w2 encB (.slice (if pc = 20 then pa else pa.map (·.add (20 * 1))) (bt1.bytes.length - 20) (pc - 20)) (bt1.bytes.drop 20) := by
      have := SlT.sub (i := 20) (j := bt1.bytes.length) encB_len hp2 (by omega) (Nat.le_refl _)
      rwa [List.take_of_length_le (by rw [List.length_drop]; exact Nat.le_refl _)] at this
    rw [hl] at hfrom
    refine newBytes (l := [1, 1, 0, 97]) rfl (by omega) (by omega) rfl fun bv w3 F3 ho3 hF3 hk3 => ?_
    refine bytesS (hfrom.kept0 hk3) (ownBytes (l := [1, 1, 0, 97]) ho3) (by rw [List.length_drop]; omega) fun w4 hk4 => ?_
    rw [decide_eq_true (show bt1.bytes.drop 20 = [1, 1, 0, 97] by rw [bt1_bytes]; rfl)]
    simp only [xP_not, Bool.not_true]
    exact ⟨trivial, hk3.then hk4 (by simp)⟩
  rintro _ _ w3 ⟨rfl, hk3⟩
  have hk03 := hk02.then hk3 (by simp)
  simp only [List.getD_cons_zero, xIf_false]
  refine (xP_upto SL_25 SZ_5 (by omega) (by omega)).2 ?_
  have hcut : SlT w3 encB (.slice (if pc = 0 then pa else pa.map (·.add (0 * 1))) 23 pc) (bt1.bytes.take 23) := SlT.upto encB_len (hp2.kept0 hk3) (by omega)
  refine bgetS hcut (by rw [List.length_take]; omega) fun vv w4 hv4 _ hk4 => ?_
  have hk04 := hk03.then hk4 (by simp)
  rw [bt1_cut] at hv4 ⊢
  simp only [xP_ex0, xP_ex1]
  refine newBt hv4.one fun w5 hb5 hk5 => ?_
  have hk05 := hk04.then hk5 (by simp)
  refine kindE_ok (e := .flt opBG 0 (.flt opG 20 (.no 3))) (k := 3) trivial rfl (hgl.kept0 hk05) fun w6 hk6 => ?_
  have hk06 := hk05.then hk6 (by simp)
  simp only [xR_eql, decide_true, xIf_true]
  refine oneSe fun w7 hs7 hk7 => ?_
  refine (xP_build (cells := (encBt bt2 (.slice (some ⟨w6.heap.size, 0, none⟩) 1 1)).toArray) btBuild3).2 ?_
  refine bsizeS (b := bt2) hs7 (by simp [bt2]) fun w8 hk8 => ?_
  rw [bt2_len]
  simp only [xR_eql]
  exact ⟨rfl, (hk06.then hk7 (by simp)).then hk8 (by simp)⟩
theorem bRunsG {w w' : World} (hg : Glob w) (hk : Kept [] w w') : xE Tryd.prog (sCall 11 #[]) w' fun v w'' => Ret (fun u w' => u = .bool true ∧ Kept [] w w') (.returned v) w'' := by
  refine xE_call CF_11 (batchRuns_ok (hg.kept0 hk)) ?_
  rintro _ w2 ⟨rfl, hk2⟩
  exact ⟨rfl, hk.then hk2 (by simp)⟩
end Go.Proofs.YtclojjiiiejfpaaDoor
