import Derived.Test.YtoanmeohlpdjfaaDoorXcSem
import Derived.Test.YtoanmeohlpdjfaaDoorXB
import Derived.Test.YtoanmeohlpdjfaaDoorXCopy2
namespace Go.Proofs.YtoanmeohlpdjfaaDoor
set_option linter.unusedSimpArgs false
set_option linter.unusedVariables false
set_option maxRecDepth 100000
attribute [local irreducible] Go.X.xE
open Go Go.X Go.RowKit

/-! ## The statements' books -/
theorem rowB : RowB Tryd.prog 32 5 1 encB (fun b : UInt8 => Value.int .u8 b.toNat) := RowB.one SL_32 SZ_5 ONE_5
def within (n lo hi : Int) : Int := lo + n % (hi - lo + 1)
theorem within_bd {n lo hi : Int} (h : lo ≤ hi) : lo ≤ within n lo hi ∧ within n lo hi ≤ hi := by
  unfold within
  have h1 := Int.emod_nonneg n (show hi - lo + 1 ≠ 0 by omega)
  have h2 := Int.emod_lt_of_pos n (show 0 < hi - lo + 1 by omega)
  omega

theorem within_ok {n lo hi : Int} {w : World} (h0 : -1152921504606846976 ≤ lo) (h1 : lo ≤ hi) (h2 : hi ≤ 4611686018427387904) :
    Gives Tryd.prog 20 #[.int .i64 n, .int .i64 lo, .int .i64 hi] w fun v w' => v = .int .i64 (within n lo hi) ∧ w = w' := by
  refine C_stavebook_Within ?_
  unfold S_stavebook_Within
  have e1 : IntKind.i64.wrap (hi - lo) = hi - lo := wrap64 (by omega) (by omega)
  have e2 : IntKind.i64.wrap (hi - lo + 1) = hi - lo + 1 := wrap64 (by omega) (by omega)
  simp only [xP_sub, xP_add, e1, e2]
  refine (xP_rem (by omega)).2 ?_
  have hm := Int.tmod_lt_of_pos n (show 0 < hi - lo + 1 by omega)
  have hm2 : -(hi - lo + 1) < n.tmod (hi - lo + 1) := by
    have := Int.lt_tmod_of_pos n (show 0 < hi - lo + 1 by omega)
    omega
  have hpos := Int.emod_nonneg n (show hi - lo + 1 ≠ 0 by omega)
  have hlt := Int.emod_lt_of_pos n (show 0 < hi - lo + 1 by omega)
  have hdvd : ∃ k : Int, n.tmod (hi - lo + 1) - n % (hi - lo + 1) = k * (hi - lo + 1) ∧ (k = 0 ∨ k = -1) := by
    by_cases hn : 0 ≤ n
    · exact ⟨0, by rw [Int.tmod_eq_emod_of_nonneg hn]; omega, .inl rfl⟩
    · have := Int.tmod_eq_emod (a := n) (b := hi - lo + 1)
      rw [this]
      split
      · exact ⟨0, by omega, .inl rfl⟩
      · refine ⟨-1, ?_, .inr rfl⟩
        have : ((hi - lo + 1).natAbs : Int) = hi - lo + 1 := by omega
        rw [this]
        omega
  refine xJoin_of (fun vs w' => vs = [.int .i64 (n % (hi - lo + 1))] ∧ w' = w) ?_ ?_
  · simp only [xP_lss, xIf_dec]
    obtain ⟨k, hk, hk'⟩ := hdvd
    refine ⟨fun hneg => ?_, fun hge => ?_⟩
    · simp only [xP_add, xP_sub, and_true]
      have e3 : IntKind.i64.wrap (n.tmod (hi - lo + 1) + hi) = n.tmod (hi - lo + 1) + hi := wrap64 (by omega) (by omega)
      have e4 : IntKind.i64.wrap (n.tmod (hi - lo + 1) + hi - lo) = n.tmod (hi - lo + 1) + hi - lo := wrap64 (by omega) (by omega)
      have e5 : IntKind.i64.wrap (n.tmod (hi - lo + 1) + hi - lo + 1) = n.tmod (hi - lo + 1) + hi - lo + 1 := wrap64 (by omega) (by omega)
      rw [e3, e4, e5]
      congr 2
      rcases hk' with rfl | rfl <;> omega
    · simp only [and_true]
      congr 2
      rcases hk' with rfl | rfl <;> omega
  · rintro _ _ _ ⟨rfl, rfl⟩
    try simp only [xP_nil, xP_pick, xP_func, xP_not, xP_add, xP_sub, xP_mul, xP_lss, xP_leq, xP_gtr, xP_geq, xP_max2, xP_min2, xR_eql, xR_neq, Nat.zero_add, Nat.add_zero, Nat.reduceAdd, List.getD_cons_zero, List.getD_cons_succ, xIf_true, xIf_false, FA_35_0, FA_35_1, FA_66_0, FA_66_1, FA_66_2, FA_82_0, FA_82_1, FA_82_2, FA_86_0, FA_86_1, LEN_29, LEN_32, LEN_47, LEN_48, LEN_79, LEN_116]
    rw [wrap64 (by omega) (by omega)]
    exact ⟨rfl, rfl⟩

theorem sameB_ok {xs ys : List UInt8} {a b : Value} {w : World} (ha : SlT w encB a xs) (hb : SlT w encB b ys) (hl : xs.length ≤ 9223372036854775806) :
    Gives Tryd.prog 24 #[a, b] w fun u w' => u = .bool (decide (xs = ys)) ∧ Kept [] w w' := by
  refine C_stavebook_Same_byte ?_
  refine xSame rowB ha hb hl (fun x y w' K => ?_) (fun w' hk => ⟨rfl, hk⟩)
  rw [xR_neq]
  have : decide (((x.toNat : Nat) : Int) ≠ (y.toNat : Nat)) = !decide (x = y) := by
    by_cases h : x = y
    · simp [h]
    · have : ¬ ((x.toNat : Nat) : Int) = (y.toNat : Nat) := by
        intro he
        exact h (UInt8.toNat_inj.1 (by omega))
      simp [h, this]
  rw [this]
end Go.Proofs.YtoanmeohlpdjfaaDoor
