import Derived.Test.YthmjjdfjegjfeaaDoorXkBook1
namespace Go.Proofs.YthmjjdfjegjfeaaDoor
set_option linter.unusedSimpArgs false
set_option linter.unusedVariables false
set_option maxRecDepth 100000
attribute [local irreducible] Go.X.xE
open Go Go.X Go.RowKit

theorem same_ok {w : World} {a b : Value} {xs ys : List Int} (ha : SlT w encI a xs) (hb : SlT w encI b ys) (hl : xs.length ≤ 9223372036854775806) :
    Gives Tryd.prog 33 #[a, b] w fun v w' => v = .bool (decide (xs = ys)) ∧ Kept [] w w' := by
  obtain ⟨aa, ac, rfl, hac, har⟩ := ha
  obtain ⟨ba, bc, rfl, hbc, hbr⟩ := hb
  refine C_stavebook_Same_int ?_
  unfold S_stavebook_Same_int
  simp only [xP_nil, xP_pick, xP_func, xP_not, xP_add, xP_sub, xP_mul, xP_lss, xP_leq, xP_gtr, xP_geq, xP_max2, xP_min2, xR_eql, xR_neq, Nat.zero_add, Nat.add_zero, Nat.reduceAdd, List.getD_cons_zero, List.getD_cons_succ, xIf_true, xIf_false, FA_44_0, FA_44_1, FA_44_2, FA_44_3, FA_44_4, FA_44_5, FA_63_0, FA_63_1, FA_63_2, FA_63_3, FA_71_0, FA_71_1, FA_71_2, FA_71_3, FA_81_2, LEN_28, LEN_40, LEN_46, LEN_59, LEN_106, xIf_dec]
  refine ⟨fun hne => ⟨?_, Kept.refl _ _⟩, fun heq => ?_⟩
  · congr 1
    symm
    simp only [decide_eq_false_iff_not]
    intro h; subst h; exact hne rfl
  · have hle : xs.length = ys.length := by
      rcases Nat.lt_trichotomy xs.length ys.length with h | h | h
      · exact absurd (show ((xs.length : Nat) : Int) ≠ (ys.length : Nat) by omega) heq
      · exact h
      · exact absurd (show ((xs.length : Nat) : Int) ≠ (ys.length : Nat) by omega) heq
    refine xLoop_of (fun vs w' => ∃ i : Nat, vs = [.int .i64 i] ∧ i ≤ xs.length ∧ (∀ j, j < i → xs[j]? = ys[j]?) ∧ Kept [] w w') (fun vs _ => match vs with | [.int _ k] => xs.length - k.toNat | _ => 0) ⟨0, rfl, by omega, by omega, Kept.refl _ _⟩ ?_
    rintro _ _ w1 ⟨i, rfl, hi, hbef, hk⟩
    simp only [xP_nil, xP_pick, xP_func, xP_not, xP_add, xP_sub, xP_mul, xP_lss, xP_leq, xP_gtr, xP_geq, xP_max2, xP_min2, xR_eql, xR_neq, Nat.zero_add, Nat.add_zero, Nat.reduceAdd, List.getD_cons_zero, List.getD_cons_succ, xIf_true, xIf_false, FA_44_0, FA_44_1, FA_44_2, FA_44_3, FA_44_4, FA_44_5, FA_63_0, FA_63_1, FA_63_2, FA_63_3, FA_71_0, FA_71_1, FA_71_2, FA_71_3, FA_81_2, LEN_28, LEN_40, LEN_46, LEN_59, LEN_106, xIf_dec]
    refine ⟨fun hlt => ?_, fun hge => ?_⟩
    · have hx : i < xs.length := by omega
      have hy : i < ys.length := by omega
      obtain ⟨xb, xo, rfl, hxa⟩ := har.resolve_left (by intro h; rw [h] at hx; simp at hx)
      obtain ⟨yb, yo, rfl, hya⟩ := hbr.resolve_left (by intro h; rw [h] at hy; simp at hy)
      refine (xP_IAn SL_46 SZ_3 hx).2 ?_
      refine (ld1 ONE_3 (at_one (at_drew ((at_elem encI_len hxa (List.getElem?_eq_getElem hx)).kept hk (by simp))))).2 ?_
      refine (xP_IAn SL_46 SZ_3 hy).2 ?_
      refine (ld1 ONE_3 (at_one (at_drew ((at_elem encI_len hya (List.getElem?_eq_getElem hy)).kept hk (by simp))))).2 ?_
      simp only [xP_nil, xP_pick, xP_func, xP_not, xP_add, xP_sub, xP_mul, xP_lss, xP_leq, xP_gtr, xP_geq, xP_max2, xP_min2, xR_eql, xR_neq, Nat.zero_add, Nat.add_zero, Nat.reduceAdd, List.getD_cons_zero, List.getD_cons_succ, xIf_true, xIf_false, FA_44_0, FA_44_1, FA_44_2, FA_44_3, FA_44_4, FA_44_5, FA_63_0, FA_63_1, FA_63_2, FA_63_3, FA_71_0, FA_71_1, FA_71_2, FA_71_3, FA_81_2, LEN_28, LEN_40, LEN_46, LEN_59, LEN_106, xIf_dec]
      refine ⟨fun hne => ⟨?_, hk.drew⟩, fun he => ?_⟩
      · congr 1
        symm
        simp only [decide_eq_false_iff_not]
        intro h; subst h; exact hne rfl
      · rw [wrap64 (by omega) (by omega)]
        refine ⟨⟨i + 1, rfl, hx, fun j hj => ?_, hk.drew⟩, by omega⟩
        by_cases hji : j < i
        · exact hbef j hji
        · obtain rfl : j = i := by omega
          rw [List.getElem?_eq_getElem hx, List.getElem?_eq_getElem hy]
          simpa using he
    · refine ⟨?_, hk⟩
      congr 1
      symm
      simp only [decide_eq_true_eq]
      refine List.ext_getElem? (fun j => ?_)
      by_cases hj : j < i
      · exact hbef j hj
      · rw [List.getElem?_eq_none (by omega), List.getElem?_eq_none (by omega)]

end Go.Proofs.YthmjjdfjegjfeaaDoor
