import Derived.Test.YtclojjiiiejfpaaDoorXgGram8
import Derived.Test.YtclojjiiiejfpaaDoorXgSame2
import Derived.Test.YtclojjiiiejfpaaDoorXGramV
import Derived.Test.YtclojjiiiejfpaaDoorXB
namespace Go.Proofs.YtclojjiiiejfpaaDoor
set_option linter.unusedSimpArgs false
set_option linter.unusedVariables false
set_option maxRecDepth 100000
attribute [local irreducible] Go.X.xE
open Go Go.X Go.RowKit

/-! ## What the statements of the grammar use -/
theorem least_ok {fs : List GFd} {v : Value} {w : World} (hf : SlT w encF v fs) (hs : small fs) (hfl : fs.length ≤ 1000) :
    Gives Tryd.prog 21 #[v] w fun u w' => u = .int .i64 (gramLeast fs) ∧ Kept [] w w' := by
  refine C_gram_Least ?_
  unfold S_gram_Least
  refine xE_call CF_40 (wrong_ok hf (by omega) hs) ?_
  rintro _ w1 ⟨rfl, hk1⟩
  unfold gramLeast
  by_cases hw : fs.findIdx (fun f => !f.right) < fs.length
  · rw [if_pos hw, if_pos hw]
    have e1 : (0 : Int) ≤ (fs.findIdx (fun f => !f.right) : Nat) := by omega
    simp only [xP_nil, xP_pick, xP_func, xP_not, xP_add, xP_sub, xP_mul, xP_lss, xP_leq, xP_gtr, xP_geq, xP_max2, xP_min2, xR_eql, xR_neq, Nat.zero_add, Nat.add_zero, Nat.reduceAdd, List.getD_cons_zero, List.getD_cons_succ, xIf_true, xIf_false, FA_23_0, FA_23_1, FA_23_2, FA_23_3, FA_23_4, FA_32_0, FA_32_1, FA_32_2, FA_63_0, FA_63_1, FA_63_2, FA_63_3, FA_80_0, FA_80_1, FA_80_2, FA_85_0, FA_85_1, FA_85_2, LEN_24, LEN_25, LEN_30, LEN_33, LEN_58, LEN_82, LEN_134, e1, decide_true]
    exact ⟨rfl, hk1⟩
  rw [if_neg hw, if_neg hw]
  have e1 : ¬ (0 : Int) ≤ -1 := by omega
  obtain ⟨fa, fc, rfl, hfc, hfr⟩ := hf
  have hf : SlT w encF (.slice fa fs.length fc) fs := ⟨fa, fc, rfl, hfc, hfr⟩
  have hall : ∀ f ∈ fs, f.right = true := fun f hm => by
    cases hr : f.right with
    | true => rfl
    | false => exact absurd (List.findIdx_lt_length_of_exists ⟨f, hm, by simp [hr]⟩) hw
  have hlb : ∀ f ∈ fs, 0 ≤ f.least ∧ f.least ≤ 131072 := fun f hm => leastRight (hall f hm) (hs f hm)
  simp only [xP_nil, xP_pick, xP_func, xP_not, xP_add, xP_sub, xP_mul, xP_lss, xP_leq, xP_gtr, xP_geq, xP_max2, xP_min2, xR_eql, xR_neq, Nat.zero_add, Nat.add_zero, Nat.reduceAdd, List.getD_cons_zero, List.getD_cons_succ, xIf_true, xIf_false, FA_23_0, FA_23_1, FA_23_2, FA_23_3, FA_23_4, FA_32_0, FA_32_1, FA_32_2, FA_63_0, FA_63_1, FA_63_2, FA_63_3, FA_80_0, FA_80_1, FA_80_2, FA_85_0, FA_85_1, FA_85_2, LEN_24, LEN_25, LEN_30, LEN_33, LEN_58, LEN_82, LEN_134, e1, decide_false]
  refine xLoop_of (fun ls w' => ∃ i : Nat, ls = [.int .i64 (leastSum (fs.take i)), .int .i64 i] ∧ i ≤ fs.length ∧ Kept [] w w') (fun ls _ => match ls with | [_, .int _ i] => fs.length - i.toNat | _ => 0) ⟨0, rfl, by omega, hk1⟩ ?_
  rintro _ _ w2 ⟨i, rfl, hi, hk2⟩
  simp only [xP_nil, xP_pick, xP_func, xP_not, xP_add, xP_sub, xP_mul, xP_lss, xP_leq, xP_gtr, xP_geq, xP_max2, xP_min2, xR_eql, xR_neq, Nat.zero_add, Nat.add_zero, Nat.reduceAdd, List.getD_cons_zero, List.getD_cons_succ, xIf_true, xIf_false, FA_23_0, FA_23_1, FA_23_2, FA_23_3, FA_23_4, FA_32_0, FA_32_1, FA_32_2, FA_63_0, FA_63_1, FA_63_2, FA_63_3, FA_80_0, FA_80_1, FA_80_2, FA_85_0, FA_85_1, FA_85_2, LEN_24, LEN_25, LEN_30, LEN_33, LEN_58, LEN_82, LEN_134, xIf_dec]
  refine ⟨fun hlt => ?_, fun hge => ?_⟩
  · have hif : i < fs.length := by omega
    have hsum := leastSum_le (fs := fs.take i) (fun f hm => hlb f (List.mem_of_mem_take hm))
    have hti : (fs.take i).length ≤ 1000 := by rw [List.length_take]; omega
    have hli := hlb _ (List.getElem_mem hif)
    have hrt := hall _ (List.getElem_mem hif)
    have est : leastSum (fs.take (i + 1)) = leastSum (fs.take i) + fs[i].least := by
      rw [List.take_succ_eq_append_getElem hif]
      unfold leastSum
      rw [List.map_append, List.sum_append, List.map_cons, List.map_nil, List.sum_cons, List.sum_nil, Int.add_zero]
    refine xJoin_of (fun ls w' => ls = [.int .i64 (leastSum (fs.take (i + 1)))] ∧ Kept [] w w') ?_ ?_
    · refine (rowF.get hf hk2 hif).2 ?_
      rw [est]
      generalize fs[i] = f at *
      generalize leastSum (fs.take i) = s at *
      refine xE_alloc Z_23 fun w3 hb3 hk3 hz3 => ?_
      refine xE_storeN (l1 := []) (l2 := [.int .i64 0, .int .i64 0, .int .i64 0, .int .i64 0, .int .i64 0]) (l3 := []) SZ_23 hb3 rfl rfl rfl (encF_cells f) fun w4 hb4 hk4 hz4 => ?_
      have hb4' : Blk w4 w2.heap.size 23 (encF f) := by simpa [Value.cells, vF] using hb4
      have hk04 : Kept [] w w4 := hk2.then (hk3.trans hk4 (N := []) (by simp) (by simp)) (by simp)
      obtain ⟨L0, L1, L2, L3, L4, L5⟩ := ldF hb4'
      simp only [xP_nil, xP_pick, xP_func, xP_not, xP_add, xP_sub, xP_mul, xP_lss, xP_leq, xP_gtr, xP_geq, xP_max2, xP_min2, xR_eql, xR_neq, Nat.zero_add, Nat.add_zero, Nat.reduceAdd, List.getD_cons_zero, List.getD_cons_succ, xIf_true, xIf_false, FA_23_0, FA_23_1, FA_23_2, FA_23_3, FA_23_4, FA_32_0, FA_32_1, FA_32_2, FA_63_0, FA_63_1, FA_63_2, FA_63_3, FA_80_0, FA_80_1, FA_80_2, FA_85_0, FA_85_1, FA_85_2, LEN_24, LEN_25, LEN_30, LEN_33, LEN_58, LEN_82, LEN_134, L0, L1, L2, xIf_dec]
      have hsb : s ≤ 131072000 := by omega
      unfold GFd.least at hli ⊢
      refine ⟨fun k1 => ?_, fun k1 => ⟨fun k2 => ?_, fun k2 => ⟨fun k3 => ?_, fun k3 => ?_⟩⟩⟩
      · rw [if_pos k1] at hli ⊢
        rw [wrap64 (by omega) (by omega)]
        exact ⟨rfl, hk04⟩
      · rw [if_neg k1, if_pos k2] at hli ⊢
        rw [wrap64 (x := 2 + f.lo) (by omega) (by omega), wrap64 (by omega) (by omega)]
        exact ⟨rfl, hk04⟩
      · rw [if_neg k1, if_neg k2, if_pos k3] at hli ⊢
        rw [wrap64 (x := 2 * f.lo) (by omega) (by omega), wrap64 (x := 1 + 2 * f.lo) (by omega) (by omega), wrap64 (by omega) (by omega)]
        exact ⟨rfl, hk04⟩
      · rcases GFd.right_kinds hrt with h | h | h <;> omega
    · rintro _ _ w3 ⟨rfl, hk3⟩
      try simp only [xP_nil, xP_pick, xP_func, xP_not, xP_add, xP_sub, xP_mul, xP_lss, xP_leq, xP_gtr, xP_geq, xP_max2, xP_min2, xR_eql, xR_neq, Nat.zero_add, Nat.add_zero, Nat.reduceAdd, List.getD_cons_zero, List.getD_cons_succ, xIf_true, xIf_false, FA_23_0, FA_23_1, FA_23_2, FA_23_3, FA_23_4, FA_32_0, FA_32_1, FA_32_2, FA_63_0, FA_63_1, FA_63_2, FA_63_3, FA_80_0, FA_80_1, FA_80_2, FA_85_0, FA_85_1, FA_85_2, LEN_24, LEN_25, LEN_30, LEN_33, LEN_58, LEN_82, LEN_134]
      rw [wrap64 (by omega) (by omega)]
      exact ⟨⟨i + 1, rfl, hif, hk3⟩, by omega⟩
  · obtain rfl : i = fs.length := by omega
    rw [List.take_length]
    exact ⟨rfl, hk2⟩

theorem IsRow.get {w : World} {raws : List RawV} {vs : List GVl} (h : IsRow w raws vs) {i : Nat} (hi : i < vs.length) : ∃ hr : i < raws.length, IsV w raws[i] vs[i] :=
  ⟨by rw [h.1]; exact hi, h.2 i _ _ (List.getElem?_eq_getElem (by rw [h.1]; exact hi)) (List.getElem?_eq_getElem hi)⟩
theorem same_ok {raws raws' : List RawV} {xs ys : List GVl} {a b : Value} {w : World} (ha : SlT w encV a raws) (hx : IsRow w raws xs) (hb : SlT w encV b raws') (hy : IsRow w raws' ys) (hl : xs.length ≤ 1000000) (hll : ∀ y ∈ xs, y.l.length ≤ 9223372036854775806) :
    Gives Tryd.prog 29 #[a, b] w fun u w' => u = .bool (decide (xs = ys)) ∧ Kept [] w w' := by
  refine C_stavelaw2_same ?_
  unfold S_stavelaw2_same
  obtain ⟨aa, ac, rfl, hac, har⟩ := ha
  have ha : SlT w encV (.slice aa raws.length ac) raws := ⟨aa, ac, rfl, hac, har⟩
  obtain ⟨ba, bc, rfl, hbc, hbr⟩ := hb
  have hb : SlT w encV (.slice ba raws'.length bc) raws' := ⟨ba, bc, rfl, hbc, hbr⟩
  have h1 := hx.1
  have h2 := hy.1
  simp only [xP_nil, xP_pick, xP_func, xP_not, xP_add, xP_sub, xP_mul, xP_lss, xP_leq, xP_gtr, xP_geq, xP_max2, xP_min2, xR_eql, xR_neq, Nat.zero_add, Nat.add_zero, Nat.reduceAdd, List.getD_cons_zero, List.getD_cons_succ, xIf_true, xIf_false, FA_23_0, FA_23_1, FA_23_2, FA_23_3, FA_23_4, FA_32_0, FA_32_1, FA_32_2, FA_63_0, FA_63_1, FA_63_2, FA_63_3, FA_80_0, FA_80_1, FA_80_2, FA_85_0, FA_85_1, FA_85_2, LEN_24, LEN_25, LEN_30, LEN_33, LEN_58, LEN_82, LEN_134, xIf_dec]
  refine ⟨fun hne => ⟨?_, Kept.refl _ _⟩, fun heq => ?_⟩
  · rw [decide_eq_false]
    intro h; subst h; exact hne (by omega)
  have hle : xs.length = ys.length := by
    rcases Nat.lt_trichotomy raws.length raws'.length with h | h | h
    · exact absurd (show ((raws.length : Nat) : Int) ≠ (raws'.length : Nat) by omega) heq
    · omega
    · exact absurd (show ((raws.length : Nat) : Int) ≠ (raws'.length : Nat) by omega) heq
  refine xLoop_of (fun vs w' => ∃ i : Nat, vs = [.int .i64 i] ∧ i ≤ xs.length ∧ (∀ j, j < i → xs[j]? = ys[j]?) ∧ Kept [] w w') (fun vs _ => match vs with | [.int _ k] => xs.length - k.toNat | _ => 0) ⟨0, rfl, by omega, by omega, Kept.refl _ _⟩ ?_
  rintro _ _ w1 ⟨i, rfl, hi, hbef, hk⟩
  simp only [xP_nil, xP_pick, xP_func, xP_not, xP_add, xP_sub, xP_mul, xP_lss, xP_leq, xP_gtr, xP_geq, xP_max2, xP_min2, xR_eql, xR_neq, Nat.zero_add, Nat.add_zero, Nat.reduceAdd, List.getD_cons_zero, List.getD_cons_succ, xIf_true, xIf_false, FA_23_0, FA_23_1, FA_23_2, FA_23_3, FA_23_4, FA_32_0, FA_32_1, FA_32_2, FA_63_0, FA_63_1, FA_63_2, FA_63_3, FA_80_0, FA_80_1, FA_80_2, FA_85_0, FA_85_1, FA_85_2, LEN_24, LEN_25, LEN_30, LEN_33, LEN_58, LEN_82, LEN_134, xIf_dec]
  refine ⟨fun hlt => ?_, fun hge => ⟨?_, hk⟩⟩
  · have hxi : i < xs.length := by omega
    have hyi : i < ys.length := by omega
    obtain ⟨hri, hvx⟩ := hx.get hxi
    obtain ⟨hri', hvy⟩ := hy.get hyi
    have hkd := hk.drew
    have hvx := hvx.kept0 hkd
    have hvy := hvy.kept0 hkd
    refine xJoin_of (fun vs w' => vs = [.bool (!decide (xs[i] = ys[i]))] ∧ Kept [] w w') ?_ ?_
    · generalize hrx : raws[i] = x at *
      generalize hry : raws'[i] = y at *
      have hlx := hll _ (List.getElem_mem hxi)
      generalize xs[i] = p at *
      generalize ys[i] = q at *
      have hA : ∀ (f : Nat) (X : TypeId) (uu : Value) (K : Value → Prop), fieldB Tryd.prog 32 f f = true → oneB Tryd.prog X = true → (encV x)[f]? = some uu → K uu →
          (xP Tryd.prog (sIA 33 (.slice aa raws.length ac) (.int .i64 (i : Nat))) fun v => xP Tryd.prog (sFA 32 v f) fun c => xR Tryd.prog (sLoad X c) w1.drew K) :=
        fun f X uu K hB' hX hu hK => (rowV.fld ha hkd hri (K := K) (u := uu) hB' hX (by rw [hrx]; exact hu)).2 hK
      have hB : ∀ (f : Nat) (X : TypeId) (uu : Value) (K : Value → Prop), fieldB Tryd.prog 32 f f = true → oneB Tryd.prog X = true → (encV y)[f]? = some uu → K uu →
          (xP Tryd.prog (sIA 33 (.slice ba raws'.length bc) (.int .i64 (i : Nat))) fun v => xP Tryd.prog (sFA 32 v f) fun c => xR Tryd.prog (sLoad X c) w1.drew K) :=
        fun f X uu K hB' hX hu hK => (rowV.fld hb hkd hri' (K := K) (u := uu) hB' hX (by rw [hry]; exact hu)).2 hK
      refine hA 0 _ (.int .i64 x.n) _ (by kernel_rfl) ONE_3 rfl ?_
      refine hB 0 _ (.int .i64 y.n) _ (by kernel_rfl) ONE_3 rfl ?_
      rw [hvx.1, hvy.1]
      simp only [xR_neq, xIf_dec]
      refine ⟨fun hne => ⟨by rw [decide_eq_false (fun h => hne (by rw [h]))]; rfl, hkd⟩, fun hn => ?_⟩
      refine hA 1 _ (.string x.s) _ (by kernel_rfl) ONE_9 rfl ?_
      refine hB 1 _ (.string y.s) _ (by kernel_rfl) ONE_9 rfl ?_
      rw [hvx.2.1, hvy.2.1]
      simp only [xR_neqStr, xIf_bool, Bool.not_eq_true', Bool.not_eq_false', decide_eq_false_iff_not, decide_eq_true_eq]
      refine ⟨fun hne => ⟨by rw [decide_eq_false (fun h => hne (by rw [h]))]; rfl, hkd⟩, fun hs => ?_⟩
      refine hA 2 _ x.lv _ (by kernel_rfl) ONE_30 rfl ?_
      refine hB 2 _ y.lv _ (by kernel_rfl) ONE_30 rfl ?_
      refine xE_call CF_55 (sameS_ok hvx.2.2 hvy.2.2 hlx) ?_
      rintro _ w2 ⟨rfl, hk2⟩
      simp only [xP_nil, xP_pick, xP_func, xP_not, xP_add, xP_sub, xP_mul, xP_lss, xP_leq, xP_gtr, xP_geq, xP_max2, xP_min2, xR_eql, xR_neq, Nat.zero_add, Nat.add_zero, Nat.reduceAdd, List.getD_cons_zero, List.getD_cons_succ, xIf_true, xIf_false, FA_23_0, FA_23_1, FA_23_2, FA_23_3, FA_23_4, FA_32_0, FA_32_1, FA_32_2, FA_63_0, FA_63_1, FA_63_2, FA_63_3, FA_80_0, FA_80_1, FA_80_2, FA_85_0, FA_85_1, FA_85_2, LEN_24, LEN_25, LEN_30, LEN_33, LEN_58, LEN_82, LEN_134]
      refine ⟨?_, hkd.then hk2 (by simp)⟩
      have e : decide (p.l = q.l) = decide (p = q) := by
        have hn' : p.n = q.n := by simpa using hn
        rw [decide_eq_decide]
        exact ⟨fun h => by cases p; cases q; simp_all, fun h => by rw [h]⟩
      rw [e]
    · rintro _ _ w2 ⟨rfl, hk2⟩
      simp only [xP_nil, xP_pick, xP_func, xP_not, xP_add, xP_sub, xP_mul, xP_lss, xP_leq, xP_gtr, xP_geq, xP_max2, xP_min2, xR_eql, xR_neq, Nat.zero_add, Nat.add_zero, Nat.reduceAdd, List.getD_cons_zero, List.getD_cons_succ, xIf_true, xIf_false, FA_23_0, FA_23_1, FA_23_2, FA_23_3, FA_23_4, FA_32_0, FA_32_1, FA_32_2, FA_63_0, FA_63_1, FA_63_2, FA_63_3, FA_80_0, FA_80_1, FA_80_2, FA_85_0, FA_85_1, FA_85_2, LEN_24, LEN_25, LEN_30, LEN_33, LEN_58, LEN_82, LEN_134, xIf_bool, Bool.not_eq_true', Bool.not_eq_false', decide_eq_false_iff_not, decide_eq_true_eq]
      refine ⟨fun hne => ⟨?_, hk2⟩, fun he => ?_⟩
      · rw [decide_eq_false]
        intro h; subst h; exact hne rfl
      · rw [wrap64 (by omega) (by omega)]
        refine ⟨⟨i + 1, rfl, hxi, fun j hj => ?_, hk2⟩, by omega⟩
        by_cases hji : j < i
        · exact hbef j hji
        · obtain rfl : j = i := by omega
          rw [List.getElem?_eq_getElem hxi, List.getElem?_eq_getElem hyi, he]
  · symm
    refine congrArg _ (decide_eq_true ?_)
    refine List.ext_getElem? (fun j => ?_)
    by_cases hj : j < i
    · exact hbef j hj
    · rw [List.getElem?_eq_none (by omega), List.getElem?_eq_none (by omega)]
end Go.Proofs.YtclojjiiiejfpaaDoor
