import Derived.Test.YtbfaglbfpmnnmaaDoorXdDedup2
namespace Go.Proofs.YtbfaglbfpmnnmaaDoor
set_option linter.unusedSimpArgs false
set_option linter.unusedVariables false
set_option maxRecDepth 100000
attribute [local irreducible] Go.X.xE
open Go Go.X Go.RowKit

theorem rowI : RowB Tryd.prog 49 3 1 encI (Value.int .i64) := RowB.one SL_49 SZ_3 ONE_3
/-! ## DedupOnce -/
def onceM (k : Int) (next : Nat) : List (Int × Sn) := if next = 0 then [] else [(k, ⟨next - 1, 10 * (next - 1), 1⟩)]
theorem onceM_note {k : Int} {next : Nat} (hk : 1 ≤ k) : dedNote (onceM k next) k ⟨next, 10 * next, 1⟩ = onceM k (next + 1) := by
  unfold dedNote
  rw [if_neg (by omega)]
  have e : onceM k (next + 1) = [(k, ⟨next, 10 * next, 1⟩)] := by
    unfold onceM
    rw [if_neg (by omega)]
    simp
  rw [e]
  unfold onceM
  split
  · rfl
  · simp [mset]
theorem onceM_ask {k : Int} {next : Nat} {n : Int} (hk : 1 ≤ k ∧ k ≤ 1048576) (hn : 0 ≤ n) (h1 : n ≤ next + 2) (h50 : next ≤ 50) :
    dedAsk (onceM k next) k n = if n = next then (snZ, false, none) else if n = next - 1 then (⟨n, 10 * n, 1⟩, true, none) else (snZ, false, some (.flt opDA k (.no 12))) := by
  have hf : dedFine k n := ⟨hk.1, hk.2, hn, by omega⟩
  by_cases h0 : next = 0
  · subst h0
    rw [ask_none hf (by rfl)]
    by_cases hz : n = 0
    · simp [hz]
    · rw [if_neg hz, if_neg (by omega), if_neg (by omega)]
  · have hm : mget (onceM k next) k = some ⟨next - 1, 10 * (next - 1), 1⟩ := by
      unfold onceM
      rw [if_neg h0]
      simp [mget]
    rw [ask_some hf hm]
    have e1 : IntKind.i64.wrap ((next : Int) - 1 + 1) = next := by rw [wrap64 (by omega) (by omega)]; omega
    simp only
    rw [e1]
    by_cases hb : n = next
    · rw [if_neg (by omega), if_pos hb, if_pos hb]
    · by_cases hc : n = next - 1
      · rw [if_pos hc, if_neg hb, if_pos hc, hc]
      · rw [if_neg hc, if_neg hb, if_neg hb, if_neg hc]
theorem onceM_len {k : Int} {next : Nat} : (onceM k next).length ≤ 1 := by unfold onceM; split <;> simp
theorem b0Sn : Tryd.prog.built 25 (#[] : Array (Nat × Value)).toList = some (encSn snZ).toArray := by kernel_rfl
theorem b3Sn {a b c : Int} : Tryd.prog.built 25 #[(0, Value.int .i64 a), (1, .int .i64 b), (2, .int .i64 c)].toList = some (encSn ⟨a, b, c⟩).toArray := by kernel_rfl
theorem b2Sn {a b : Int} : Tryd.prog.built 25 #[(0, Value.int .i64 a), (1, .int .i64 b)].toList = some (encSn ⟨a, b, 0⟩).toArray := by kernel_rfl

theorem once_ok {p : Int} {l : List Int} {v1 : Value} {w : World} (hg : Glob w) (hsl : SlT w encI v1 l) : Gives Tryd.prog 5 #[.int .i64 p, v1] w fun u w' => u = .bool true ∧ Kept [] w w' := by
  refine C_stavelaw18_DedupOnce ?_
  unfold S_stavelaw18_DedupOnce
  refine newS fun d r w1 h1 hd hr hk1 => ?_
  refine notNil.2 ?_
  simp only [xP_nil, xP_pick, xP_func, xP_not, xP_add, xP_sub, xP_mul, xP_lss, xP_leq, xP_gtr, xP_geq, xP_max2, xP_min2, xR_eql, xR_neq, Nat.zero_add, Nat.add_zero, Nat.reduceAdd, List.getD_cons_zero, List.getD_cons_succ, xIf_true, xIf_false, FA_25_0, FA_39_0, FA_41_0, FA_41_1, FA_41_2, FA_56_0, FA_56_1, FA_56_2, FA_56_3, FA_56_4, FA_56_5, FA_72_0, FA_79_0, FA_79_1, FA_93_0, FA_93_1, FA_93_2, FA_102_2, FA_123_0, FA_123_1, FA_123_2, FA_123_3, FA_123_4, FA_131_0, FA_131_1, FA_131_2, LEN_35, LEN_45, LEN_49, LEN_53, LEN_54, LEN_57, LEN_86, LEN_88, LEN_147]
  refine xE_call CF_16 (within_ok (by omega) (by omega) (by omega)) ?_
  rintro _ _ ⟨rfl, rfl⟩
  have hkk := within_bd (n := p) (lo := 1) (hi := 1048576) (by omega)
  generalize within p 1 1048576 = k at *
  obtain ⟨a, c, rfl, hc, hrow⟩ := hsl
  have hsl : SlT w encI (.slice a l.length c) l := ⟨a, c, rfl, hc, hrow⟩
  refine xLoop_of (fun vs w' => ∃ (next i : Nat), vs = [.int .i64 next, .int .i64 i] ∧ next ≤ i ∧ i ≤ l.length ∧ i ≤ 50 ∧ Ded w' d r (onceM k next) ∧ Kept [] w w')
    (fun vs _ => match vs with | [_, .int _ i] => 50 - i.toNat | _ => 0) ⟨0, 0, rfl, by omega, by omega, by omega, h1, hk1⟩ ?_
  rintro _ _ w2 ⟨next, i, rfl, hni, hi, hi50, h2, hk2⟩
  refine xJoin_of (fun vs w' => vs = [.bool (decide (i < l.length ∧ i < 50))] ∧ w2 = w') ?_ ?_
  · simp only [xP_nil, xP_pick, xP_func, xP_not, xP_add, xP_sub, xP_mul, xP_lss, xP_leq, xP_gtr, xP_geq, xP_max2, xP_min2, xR_eql, xR_neq, Nat.zero_add, Nat.add_zero, Nat.reduceAdd, List.getD_cons_zero, List.getD_cons_succ, xIf_true, xIf_false, FA_25_0, FA_39_0, FA_41_0, FA_41_1, FA_41_2, FA_56_0, FA_56_1, FA_56_2, FA_56_3, FA_56_4, FA_56_5, FA_72_0, FA_79_0, FA_79_1, FA_93_0, FA_93_1, FA_93_2, FA_102_2, FA_123_0, FA_123_1, FA_123_2, FA_123_3, FA_123_4, FA_131_0, FA_131_1, FA_131_2, LEN_35, LEN_45, LEN_49, LEN_53, LEN_54, LEN_57, LEN_86, LEN_88, LEN_147, xIf_dec]
    refine ⟨fun h1 => ⟨by rw [decide_eq_decide.2 (show ((i : Int) < 50) ↔ (i < l.length ∧ i < 50) by omega)], trivial⟩, fun h1 => ⟨by rw [decide_eq_false (show ¬ (i < l.length ∧ i < 50) by omega)], trivial⟩⟩
  rintro _ _ _ ⟨rfl, rfl⟩
  simp only [xP_nil, xP_pick, xP_func, xP_not, xP_add, xP_sub, xP_mul, xP_lss, xP_leq, xP_gtr, xP_geq, xP_max2, xP_min2, xR_eql, xR_neq, Nat.zero_add, Nat.add_zero, Nat.reduceAdd, List.getD_cons_zero, List.getD_cons_succ, xIf_true, xIf_false, FA_25_0, FA_39_0, FA_41_0, FA_41_1, FA_41_2, FA_56_0, FA_56_1, FA_56_2, FA_56_3, FA_56_4, FA_56_5, FA_72_0, FA_79_0, FA_79_1, FA_93_0, FA_93_1, FA_93_2, FA_102_2, FA_123_0, FA_123_1, FA_123_2, FA_123_3, FA_123_4, FA_131_0, FA_131_1, FA_131_2, LEN_35, LEN_45, LEN_49, LEN_53, LEN_54, LEN_57, LEN_86, LEN_88, LEN_147, xIf_dec]
  refine ⟨fun hlt => ?_, fun hge => ?_⟩
  · refine xJoin_of (fun vs w' => ∃ next' : Nat, vs = [.int .i64 next'] ∧ next' ≤ i + 1 ∧ Ded w' d r (onceM k next') ∧ Kept [] w w') ?_ ?_
    · refine (rowI.get hsl hk2 hlt.1).2 ?_
      rw [wrap64 (x := (next : Int) - 3) (by omega) (by omega), wrap64 (x := (next : Int) + 2) (by omega) (by omega)]
      refine xE_call CF_16 (within_ok (by omega) (by omega) (by omega)) ?_
      rintro _ _ ⟨rfl, rfl⟩
      have hb := within_bd (n := l[i]) (lo := max ((next : Int) - 3) 0) (hi := (next : Int) + 2) (by omega)
      generalize within l[i] (max ((next : Int) - 3) 0) ((next : Int) + 2) = n at *
      have hask := onceM_ask hkk (show 0 ≤ n by omega) hb.2 (by omega)
      refine askS h2 fun b w3 hb3 hk3 hl3 => ?_
      rw [hask] at hb3 ⊢
      have h3 := h2.kept0 hk3
      have hk03 := hk2.then hk3 (by simp)
      simp only [xP_nil, xP_pick, xP_func, xP_not, xP_add, xP_sub, xP_mul, xP_lss, xP_leq, xP_gtr, xP_geq, xP_max2, xP_min2, xR_eql, xR_neq, Nat.zero_add, Nat.add_zero, Nat.reduceAdd, List.getD_cons_zero, List.getD_cons_succ, xIf_true, xIf_false, FA_25_0, FA_39_0, FA_41_0, FA_41_1, FA_41_2, FA_56_0, FA_56_1, FA_56_2, FA_56_3, FA_56_4, FA_56_5, FA_72_0, FA_79_0, FA_79_1, FA_93_0, FA_93_1, FA_93_2, FA_102_2, FA_123_0, FA_123_1, FA_123_2, FA_123_3, FA_123_4, FA_131_0, FA_131_1, FA_131_2, LEN_35, LEN_45, LEN_49, LEN_53, LEN_54, LEN_57, LEN_86, LEN_88, LEN_147, xIf_dec]
      refine ⟨fun heq => ?_, fun hne => ⟨fun heq => ?_, fun hne2 => ?_⟩⟩
      · rw [if_pos heq] at hb3 ⊢
        refine xJoin_one ?_
        simp only [xP_nil, xP_pick, xP_func, xP_not, xP_add, xP_sub, xP_mul, xP_lss, xP_leq, xP_gtr, xP_geq, xP_max2, xP_min2, xR_eql, xR_neq, Nat.zero_add, Nat.add_zero, Nat.reduceAdd, List.getD_cons_zero, List.getD_cons_succ, xIf_true, xIf_false, FA_25_0, FA_39_0, FA_41_0, FA_41_1, FA_41_2, FA_56_0, FA_56_1, FA_56_2, FA_56_3, FA_56_4, FA_56_5, FA_72_0, FA_79_0, FA_79_1, FA_93_0, FA_93_1, FA_93_2, FA_102_2, FA_123_0, FA_123_1, FA_123_2, FA_123_3, FA_123_4, FA_131_0, FA_131_1, FA_131_2, LEN_35, LEN_45, LEN_49, LEN_53, LEN_54, LEN_57, LEN_86, LEN_88, LEN_147]
        refine optV_neq.2 ?_
        simp only [xP_nil, xP_pick, xP_func, xP_not, xP_add, xP_sub, xP_mul, xP_lss, xP_leq, xP_gtr, xP_geq, xP_max2, xP_min2, xR_eql, xR_neq, Nat.zero_add, Nat.add_zero, Nat.reduceAdd, List.getD_cons_zero, List.getD_cons_succ, xIf_true, xIf_false, FA_25_0, FA_39_0, FA_41_0, FA_41_1, FA_41_2, FA_56_0, FA_56_1, FA_56_2, FA_56_3, FA_56_4, FA_56_5, FA_72_0, FA_79_0, FA_79_1, FA_93_0, FA_93_1, FA_93_2, FA_102_2, FA_123_0, FA_123_1, FA_123_2, FA_123_3, FA_123_4, FA_131_0, FA_131_1, FA_131_2, LEN_35, LEN_45, LEN_49, LEN_53, LEN_54, LEN_57, LEN_86, LEN_88, LEN_147, Option.isSome_none]
        refine ((ldSn hb3).2 _).2 ?_
        refine (xP_build b0Sn).2 ?_
        refine neSn.2 ?_
        simp only [decide_true, Bool.not_true]
        intro _
        simp only [xP_nil, xP_pick, xP_func, xP_not, xP_add, xP_sub, xP_mul, xP_lss, xP_leq, xP_gtr, xP_geq, xP_max2, xP_min2, xR_eql, xR_neq, Nat.zero_add, Nat.add_zero, Nat.reduceAdd, List.getD_cons_zero, List.getD_cons_succ, xIf_true, xIf_false, FA_25_0, FA_39_0, FA_41_0, FA_41_1, FA_41_2, FA_56_0, FA_56_1, FA_56_2, FA_56_3, FA_56_4, FA_56_5, FA_72_0, FA_79_0, FA_79_1, FA_93_0, FA_93_1, FA_93_2, FA_102_2, FA_123_0, FA_123_1, FA_123_2, FA_123_3, FA_123_4, FA_131_0, FA_131_1, FA_131_2, LEN_35, LEN_45, LEN_49, LEN_53, LEN_54, LEN_57, LEN_86, LEN_88, LEN_147]
        rw [wrap64 (x := 10 * n) (by omega) (by omega)]
        refine (xP_build b3Sn).2 ?_
        subst heq
        refine noteS (s := ⟨next, 10 * next, 1⟩) h3 fun _ w4 h4 hk4 => ?_
        rw [onceM_note hkk.1] at h4
        rw [wrap64 (by omega) (by omega)]
        exact ⟨next + 1, rfl, by omega, h4, hk03.then hk4 (by intro k hk; simp at hk; subst hk; exact .inr hr)⟩
      · rw [if_neg hne] at hb3 ⊢
        have heq' : n = (next : Int) - 1 := by rw [wrap64 (by omega) (by omega)] at heq; exact heq
        rw [if_pos heq'] at hb3 ⊢
        refine xJoin_one ?_
        simp only [xP_nil, xP_pick, xP_func, xP_not, xP_add, xP_sub, xP_mul, xP_lss, xP_leq, xP_gtr, xP_geq, xP_max2, xP_min2, xR_eql, xR_neq, Nat.zero_add, Nat.add_zero, Nat.reduceAdd, List.getD_cons_zero, List.getD_cons_succ, xIf_true, xIf_false, FA_25_0, FA_39_0, FA_41_0, FA_41_1, FA_41_2, FA_56_0, FA_56_1, FA_56_2, FA_56_3, FA_56_4, FA_56_5, FA_72_0, FA_79_0, FA_79_1, FA_93_0, FA_93_1, FA_93_2, FA_102_2, FA_123_0, FA_123_1, FA_123_2, FA_123_3, FA_123_4, FA_131_0, FA_131_1, FA_131_2, LEN_35, LEN_45, LEN_49, LEN_53, LEN_54, LEN_57, LEN_86, LEN_88, LEN_147, Bool.not_true]
        refine optV_neq.2 ?_
        simp only [xP_nil, xP_pick, xP_func, xP_not, xP_add, xP_sub, xP_mul, xP_lss, xP_leq, xP_gtr, xP_geq, xP_max2, xP_min2, xR_eql, xR_neq, Nat.zero_add, Nat.add_zero, Nat.reduceAdd, List.getD_cons_zero, List.getD_cons_succ, xIf_true, xIf_false, FA_25_0, FA_39_0, FA_41_0, FA_41_1, FA_41_2, FA_56_0, FA_56_1, FA_56_2, FA_56_3, FA_56_4, FA_56_5, FA_72_0, FA_79_0, FA_79_1, FA_93_0, FA_93_1, FA_93_2, FA_102_2, FA_123_0, FA_123_1, FA_123_2, FA_123_3, FA_123_4, FA_131_0, FA_131_1, FA_131_2, LEN_35, LEN_45, LEN_49, LEN_53, LEN_54, LEN_57, LEN_86, LEN_88, LEN_147, Option.isSome_none]
        refine ((ldSn hb3).2 _).2 ?_
        rw [wrap64 (x := 10 * n) (by omega) (by omega)]
        refine (xP_build b3Sn).2 ?_
        refine neSn.2 ?_
        simp only [decide_true, Bool.not_true]
        intro _
        simp only [xP_nil, xP_pick, xP_func, xP_not, xP_add, xP_sub, xP_mul, xP_lss, xP_leq, xP_gtr, xP_geq, xP_max2, xP_min2, xR_eql, xR_neq, Nat.zero_add, Nat.add_zero, Nat.reduceAdd, List.getD_cons_zero, List.getD_cons_succ, xIf_true, xIf_false, FA_25_0, FA_39_0, FA_41_0, FA_41_1, FA_41_2, FA_56_0, FA_56_1, FA_56_2, FA_56_3, FA_56_4, FA_56_5, FA_72_0, FA_79_0, FA_79_1, FA_93_0, FA_93_1, FA_93_2, FA_102_2, FA_123_0, FA_123_1, FA_123_2, FA_123_3, FA_123_4, FA_131_0, FA_131_1, FA_131_2, LEN_35, LEN_45, LEN_49, LEN_53, LEN_54, LEN_57, LEN_86, LEN_88, LEN_147]
        exact ⟨next, rfl, by omega, h3, hk03⟩
      · have hne2' : ¬ n = (next : Int) - 1 := by rw [wrap64 (by omega) (by omega)] at hne2; exact hne2
        have hask' : dedAsk (onceM k next) k n = (snZ, false, some (.flt opDA k (.no 12))) := by rw [hask, if_neg hne, if_neg hne2']
        rw [if_neg hne, if_neg hne2']
        refine xJoin_one ?_
        simp only [xP_nil, xP_pick, xP_func, xP_not, xP_add, xP_sub, xP_mul, xP_lss, xP_leq, xP_gtr, xP_geq, xP_max2, xP_min2, xR_eql, xR_neq, Nat.zero_add, Nat.add_zero, Nat.reduceAdd, List.getD_cons_zero, List.getD_cons_succ, xIf_true, xIf_false, FA_25_0, FA_39_0, FA_41_0, FA_41_1, FA_41_2, FA_56_0, FA_56_1, FA_56_2, FA_56_3, FA_56_4, FA_56_5, FA_72_0, FA_79_0, FA_79_1, FA_93_0, FA_93_1, FA_93_2, FA_102_2, FA_123_0, FA_123_1, FA_123_2, FA_123_3, FA_123_4, FA_131_0, FA_131_1, FA_131_2, LEN_35, LEN_45, LEN_49, LEN_53, LEN_54, LEN_57, LEN_86, LEN_88, LEN_147]
        refine xE_call CF_14 (kind_ok (e := .flt opDA k (.no 12)) trivial (hg.kept0 hk03)) ?_
        rintro _ w4 ⟨rfl, hk4⟩
        simp only [xP_nil, xP_pick, xP_func, xP_not, xP_add, xP_sub, xP_mul, xP_lss, xP_leq, xP_gtr, xP_geq, xP_max2, xP_min2, xR_eql, xR_neq, Nat.zero_add, Nat.add_zero, Nat.reduceAdd, List.getD_cons_zero, List.getD_cons_succ, xIf_true, xIf_false, FA_25_0, FA_39_0, FA_41_0, FA_41_1, FA_41_2, FA_56_0, FA_56_1, FA_56_2, FA_56_3, FA_56_4, FA_56_5, FA_72_0, FA_79_0, FA_79_1, FA_93_0, FA_93_1, FA_93_2, FA_102_2, FA_123_0, FA_123_1, FA_123_2, FA_123_3, FA_123_4, FA_131_0, FA_131_1, FA_131_2, LEN_35, LEN_45, LEN_49, LEN_53, LEN_54, LEN_57, LEN_86, LEN_88, LEN_147, show decide ((Er.flt opDA k (.no 12)).kind ≠ 12) = false from rfl]
        intro _
        try simp only [xP_nil, xP_pick, xP_func, xP_not, xP_add, xP_sub, xP_mul, xP_lss, xP_leq, xP_gtr, xP_geq, xP_max2, xP_min2, xR_eql, xR_neq, Nat.zero_add, Nat.add_zero, Nat.reduceAdd, List.getD_cons_zero, List.getD_cons_succ, xIf_true, xIf_false, FA_25_0, FA_39_0, FA_41_0, FA_41_1, FA_41_2, FA_56_0, FA_56_1, FA_56_2, FA_56_3, FA_56_4, FA_56_5, FA_72_0, FA_79_0, FA_79_1, FA_93_0, FA_93_1, FA_93_2, FA_102_2, FA_123_0, FA_123_1, FA_123_2, FA_123_3, FA_123_4, FA_131_0, FA_131_1, FA_131_2, LEN_35, LEN_45, LEN_49, LEN_53, LEN_54, LEN_57, LEN_86, LEN_88, LEN_147]
        exact ⟨next, rfl, by omega, h3.kept0 hk4, hk03.then hk4 (by simp)⟩
    · rintro _ _ w3 ⟨next', rfl, hn', h3, hk3⟩
      simp only [xP_nil, xP_pick, xP_func, xP_not, xP_add, xP_sub, xP_mul, xP_lss, xP_leq, xP_gtr, xP_geq, xP_max2, xP_min2, xR_eql, xR_neq, Nat.zero_add, Nat.add_zero, Nat.reduceAdd, List.getD_cons_zero, List.getD_cons_succ, xIf_true, xIf_false, FA_25_0, FA_39_0, FA_41_0, FA_41_1, FA_41_2, FA_56_0, FA_56_1, FA_56_2, FA_56_3, FA_56_4, FA_56_5, FA_72_0, FA_79_0, FA_79_1, FA_93_0, FA_93_1, FA_93_2, FA_102_2, FA_123_0, FA_123_1, FA_123_2, FA_123_3, FA_123_4, FA_131_0, FA_131_1, FA_131_2, LEN_35, LEN_45, LEN_49, LEN_53, LEN_54, LEN_57, LEN_86, LEN_88, LEN_147]
      rw [wrap64 (by omega) (by omega)]
      exact ⟨⟨next', i + 1, rfl, hn', hlt.1, by omega, h3, hk3⟩, by omega⟩
  · refine askS h2 fun b w3 hb3 hk3 hl3 => ?_
    rw [ask_zero]
    have hk03 := hk2.then hk3 (by simp)
    simp only [xP_nil, xP_pick, xP_func, xP_not, xP_add, xP_sub, xP_mul, xP_lss, xP_leq, xP_gtr, xP_geq, xP_max2, xP_min2, xR_eql, xR_neq, Nat.zero_add, Nat.add_zero, Nat.reduceAdd, List.getD_cons_zero, List.getD_cons_succ, xIf_true, xIf_false, FA_25_0, FA_39_0, FA_41_0, FA_41_1, FA_41_2, FA_56_0, FA_56_1, FA_56_2, FA_56_3, FA_56_4, FA_56_5, FA_72_0, FA_79_0, FA_79_1, FA_93_0, FA_93_1, FA_93_2, FA_102_2, FA_123_0, FA_123_1, FA_123_2, FA_123_3, FA_123_4, FA_131_0, FA_131_1, FA_131_2, LEN_35, LEN_45, LEN_49, LEN_53, LEN_54, LEN_57, LEN_86, LEN_88, LEN_147, Bool.not_false]
    refine optV_eql.2 ?_
    simp only [xP_nil, xP_pick, xP_func, xP_not, xP_add, xP_sub, xP_mul, xP_lss, xP_leq, xP_gtr, xP_geq, xP_max2, xP_min2, xR_eql, xR_neq, Nat.zero_add, Nat.add_zero, Nat.reduceAdd, List.getD_cons_zero, List.getD_cons_succ, xIf_true, xIf_false, FA_25_0, FA_39_0, FA_41_0, FA_41_1, FA_41_2, FA_56_0, FA_56_1, FA_56_2, FA_56_3, FA_56_4, FA_56_5, FA_72_0, FA_79_0, FA_79_1, FA_93_0, FA_93_1, FA_93_2, FA_102_2, FA_123_0, FA_123_1, FA_123_2, FA_123_3, FA_123_4, FA_131_0, FA_131_1, FA_131_2, LEN_35, LEN_45, LEN_49, LEN_53, LEN_54, LEN_57, LEN_86, LEN_88, LEN_147, Option.isNone_none]
    refine xE_call CF_15 (len_ok (h2.kept0 hk3)) ?_
    rintro _ _ ⟨rfl, rfl⟩
    have hl := onceM_len (k := k) (next := next)
    simp only [xP_nil, xP_pick, xP_func, xP_not, xP_add, xP_sub, xP_mul, xP_lss, xP_leq, xP_gtr, xP_geq, xP_max2, xP_min2, xR_eql, xR_neq, Nat.zero_add, Nat.add_zero, Nat.reduceAdd, List.getD_cons_zero, List.getD_cons_succ, xIf_true, xIf_false, FA_25_0, FA_39_0, FA_41_0, FA_41_1, FA_41_2, FA_56_0, FA_56_1, FA_56_2, FA_56_3, FA_56_4, FA_56_5, FA_72_0, FA_79_0, FA_79_1, FA_93_0, FA_93_1, FA_93_2, FA_102_2, FA_123_0, FA_123_1, FA_123_2, FA_123_3, FA_123_4, FA_131_0, FA_131_1, FA_131_2, LEN_35, LEN_45, LEN_49, LEN_53, LEN_54, LEN_57, LEN_86, LEN_88, LEN_147, xIf_dec]
    refine ⟨fun _ => ?_, fun hn => absurd (show (((onceM k next).length : Nat) : Int) ≤ 1 by omega) hn⟩
    refine xE_call CF_3 (runs_ok (hg.kept0 hk03)) ?_
    rintro _ w4 ⟨rfl, hk4⟩
    exact ⟨rfl, hk03.then hk4 (by simp)⟩

/-! ## DedupLast -/
def lastM (k : Int) : Option Sn → List (Int × Sn)
  | none => []
  | some x => [(k, x)]
theorem lastM_note {k : Int} (hk : 1 ≤ k) (o : Option Sn) (s : Sn) : dedNote (lastM k o) k s = lastM k (some s) := by
  unfold dedNote
  rw [if_neg (by omega)]
  cases o <;> simp [lastM, mset]
theorem lastM_ask {k n : Int} {s : Sn} (hk : 1 ≤ k ∧ k ≤ 1048576) (h0 : 0 ≤ n) (h1 : n ≤ 2000) (hs : 0 ≤ s.seq ∧ s.seq ≤ 2000) :
    dedAsk (lastM k (some s)) k n = if n = s.seq then (s, true, none) else if n = s.seq + 1 then (snZ, false, none) else (snZ, false, some (.flt opDA k (.no 12))) := by
  have hf : dedFine k n := ⟨hk.1, hk.2, h0, by omega⟩
  rw [ask_some (x := s) hf (by simp [lastM, mget]), wrap64 (by omega) (by omega)]
theorem last_ok {p : Int} {l : List Int} {v1 : Value} {w : World} (hg : Glob w) (hsl : SlT w encI v1 l) : Gives Tryd.prog 7 #[.int .i64 p, v1] w fun u w' => u = .bool true ∧ Kept [] w w' := by
  refine C_stavelaw18_DedupLast ?_
  unfold S_stavelaw18_DedupLast
  refine newS fun d r w1 h1 hd hr hk1 => ?_
  refine notNil.2 ?_
  simp only [xP_nil, xP_pick, xP_func, xP_not, xP_add, xP_sub, xP_mul, xP_lss, xP_leq, xP_gtr, xP_geq, xP_max2, xP_min2, xR_eql, xR_neq, Nat.zero_add, Nat.add_zero, Nat.reduceAdd, List.getD_cons_zero, List.getD_cons_succ, xIf_true, xIf_false, FA_25_0, FA_39_0, FA_41_0, FA_41_1, FA_41_2, FA_56_0, FA_56_1, FA_56_2, FA_56_3, FA_56_4, FA_56_5, FA_72_0, FA_79_0, FA_79_1, FA_93_0, FA_93_1, FA_93_2, FA_102_2, FA_123_0, FA_123_1, FA_123_2, FA_123_3, FA_123_4, FA_131_0, FA_131_1, FA_131_2, LEN_35, LEN_45, LEN_49, LEN_53, LEN_54, LEN_57, LEN_86, LEN_88, LEN_147]
  refine xE_call CF_16 (within_ok (by omega) (by omega) (by omega)) ?_
  rintro _ _ ⟨rfl, rfl⟩
  have hkk := within_bd (n := p) (lo := 1) (hi := 1048576) (by omega)
  generalize within p 1 1048576 = k at *
  obtain ⟨a, c, rfl, hc, hrow⟩ := hsl
  have hsl : SlT w encI (.slice a l.length c) l := ⟨a, c, rfl, hc, hrow⟩
  refine xLoop_of (fun vs w' => ∃ (i : Nat) (o : Option Sn), vs = [.int .i64 i] ∧ i ≤ l.length ∧ i ≤ 30 ∧ Ded w' d r (lastM k o) ∧ Kept [] w w')
    (fun vs _ => match vs with | [.int _ i] => 30 - i.toNat | _ => 0) ⟨0, none, rfl, by omega, by omega, h1, hk1⟩ ?_
  rintro _ _ w2 ⟨i, o, rfl, hi, hi30, h2, hk2⟩
  refine xJoin_of (fun vs w' => vs = [.bool (decide (i < l.length ∧ i < 30))] ∧ w2 = w') ?_ ?_
  · simp only [xP_nil, xP_pick, xP_func, xP_not, xP_add, xP_sub, xP_mul, xP_lss, xP_leq, xP_gtr, xP_geq, xP_max2, xP_min2, xR_eql, xR_neq, Nat.zero_add, Nat.add_zero, Nat.reduceAdd, List.getD_cons_zero, List.getD_cons_succ, xIf_true, xIf_false, FA_25_0, FA_39_0, FA_41_0, FA_41_1, FA_41_2, FA_56_0, FA_56_1, FA_56_2, FA_56_3, FA_56_4, FA_56_5, FA_72_0, FA_79_0, FA_79_1, FA_93_0, FA_93_1, FA_93_2, FA_102_2, FA_123_0, FA_123_1, FA_123_2, FA_123_3, FA_123_4, FA_131_0, FA_131_1, FA_131_2, LEN_35, LEN_45, LEN_49, LEN_53, LEN_54, LEN_57, LEN_86, LEN_88, LEN_147, xIf_dec]
    refine ⟨fun h1 => ⟨by rw [decide_eq_decide.2 (show ((i : Int) < 30) ↔ (i < l.length ∧ i < 30) by omega)], trivial⟩, fun h1 => ⟨by rw [decide_eq_false (show ¬ (i < l.length ∧ i < 30) by omega)], trivial⟩⟩
  rintro _ _ _ ⟨rfl, rfl⟩
  simp only [xP_nil, xP_pick, xP_func, xP_not, xP_add, xP_sub, xP_mul, xP_lss, xP_leq, xP_gtr, xP_geq, xP_max2, xP_min2, xR_eql, xR_neq, Nat.zero_add, Nat.add_zero, Nat.reduceAdd, List.getD_cons_zero, List.getD_cons_succ, xIf_true, xIf_false, FA_25_0, FA_39_0, FA_41_0, FA_41_1, FA_41_2, FA_56_0, FA_56_1, FA_56_2, FA_56_3, FA_56_4, FA_56_5, FA_72_0, FA_79_0, FA_79_1, FA_93_0, FA_93_1, FA_93_2, FA_102_2, FA_123_0, FA_123_1, FA_123_2, FA_123_3, FA_123_4, FA_131_0, FA_131_1, FA_131_2, LEN_35, LEN_45, LEN_49, LEN_53, LEN_54, LEN_57, LEN_86, LEN_88, LEN_147, xIf_dec]
  refine ⟨fun hlt => ?_, fun hge => ?_⟩
  · refine (rowI.get hsl hk2 hlt.1).2 ?_
    refine xE_call CF_16 (within_ok (by omega) (by omega) (by omega)) ?_
    rintro _ _ ⟨rfl, rfl⟩
    have hb := within_bd (n := l[i]) (lo := 2) (hi := 1000) (by omega)
    generalize within l[i] 2 1000 = n at *
    refine (xP_rem (by omega)).2 ?_
    refine xP_add.2 ?_
    generalize IntKind.i64.wrap (1 + (i : Int).tmod 3) = q
    refine (xP_build b3Sn).2 ?_
    obtain ⟨s, es⟩ : ∃ s : Sn, s = ⟨n, i, q⟩ := ⟨_, rfl⟩
    rw [← es]
    have hsq : s.seq = n := by rw [es]
    refine newSn (x := s) fun w3 hb3 hk3 => ?_
    have hk03 := hk2.then hk3 (by simp)
    refine ((ldSn hb3).2 _).2 ?_
    refine noteS (h2.kept0 hk3) fun _ w4 h4 hk4 => ?_
    rw [lastM_note hkk.1] at h4
    have hrw : ∀ k ∈ [r], k ∈ ([] : List Nat) ∨ w.heap.size ≤ k := by intro k hk; simp at hk; subst hk; exact .inr hr
    have hk04 := hk03.then hk4 hrw
    have hb4 : Blk w4 w2.heap.size 25 (encSn s) := hb3.kept hk4 (by simp; have := h2.map.lt; omega)
    refine askS h4 fun b5 w5 hb5 hk5 hl5 => ?_
    refine xP_sub.2 ?_
    rw [wrap64 (x := n - 1) (by omega) (by omega)]
    refine askS (h4.kept0 hk5) fun b6 w6 hb6 hk6 hl6 => ?_
    refine xP_add.2 ?_
    rw [wrap64 (x := n + 1) (by omega) (by omega)]
    refine askS ((h4.kept0 hk5).kept0 hk6) fun b7 w7 hb7 hk7 hl7 => ?_
    refine xP_add.2 ?_
    rw [wrap64 (x := n + 2) (by omega) (by omega)]
    refine askS (((h4.kept0 hk5).kept0 hk6).kept0 hk7) fun b8 w8 hb8 hk8 hl8 => ?_
    have k48 : Kept [] w4 w8 := ((hk5.then hk6 (by simp)).then hk7 (by simp)).then hk8 (by simp)
    have k58 : Kept [] w5 w8 := (hk6.then hk7 (by simp)).then hk8 (by simp)
    have hk08 := hk04.then k48 (by simp)
    have h8 := h4.kept0 k48
    have hs2 : 0 ≤ s.seq ∧ s.seq ≤ 2000 := by omega
    have e1 : dedAsk (lastM k (some s)) k n = (s, true, none) := by rw [lastM_ask hkk (by omega) (by omega) hs2, if_pos hsq.symm]
    have e2 : dedAsk (lastM k (some s)) k (n - 1) = (snZ, false, some (.flt opDA k (.no 12))) := by rw [lastM_ask hkk (by omega) (by omega) hs2, if_neg (by omega), if_neg (by omega)]
    have e3 : dedAsk (lastM k (some s)) k (n + 1) = (snZ, false, none) := by rw [lastM_ask hkk (by omega) (by omega) hs2, if_neg (by omega), if_pos (by omega)]
    have e4 : dedAsk (lastM k (some s)) k (n + 2) = (snZ, false, some (.flt opDA k (.no 12))) := by rw [lastM_ask hkk (by omega) (by omega) hs2, if_neg (by omega), if_neg (by omega)]
    rw [e1] at hb5 ⊢
    rw [e2, e3, e4]
    have hb58 : Blk w8 b5 25 (encSn s) := hb5.kept k58 (by simp)
    have hb38 : Blk w8 w2.heap.size 25 (encSn s) := hb4.kept k48 (by simp)
    refine xJoin_one ?_
    simp only [xP_nil, xP_pick, xP_func, xP_not, xP_add, xP_sub, xP_mul, xP_lss, xP_leq, xP_gtr, xP_geq, xP_max2, xP_min2, xR_eql, xR_neq, Nat.zero_add, Nat.add_zero, Nat.reduceAdd, List.getD_cons_zero, List.getD_cons_succ, xIf_true, xIf_false, FA_25_0, FA_39_0, FA_41_0, FA_41_1, FA_41_2, FA_56_0, FA_56_1, FA_56_2, FA_56_3, FA_56_4, FA_56_5, FA_72_0, FA_79_0, FA_79_1, FA_93_0, FA_93_1, FA_93_2, FA_102_2, FA_123_0, FA_123_1, FA_123_2, FA_123_3, FA_123_4, FA_131_0, FA_131_1, FA_131_2, LEN_35, LEN_45, LEN_49, LEN_53, LEN_54, LEN_57, LEN_86, LEN_88, LEN_147, Bool.not_true]
    refine optV_neq.2 ?_
    simp only [xP_nil, xP_pick, xP_func, xP_not, xP_add, xP_sub, xP_mul, xP_lss, xP_leq, xP_gtr, xP_geq, xP_max2, xP_min2, xR_eql, xR_neq, Nat.zero_add, Nat.add_zero, Nat.reduceAdd, List.getD_cons_zero, List.getD_cons_succ, xIf_true, xIf_false, FA_25_0, FA_39_0, FA_41_0, FA_41_1, FA_41_2, FA_56_0, FA_56_1, FA_56_2, FA_56_3, FA_56_4, FA_56_5, FA_72_0, FA_79_0, FA_79_1, FA_93_0, FA_93_1, FA_93_2, FA_102_2, FA_123_0, FA_123_1, FA_123_2, FA_123_3, FA_123_4, FA_131_0, FA_131_1, FA_131_2, LEN_35, LEN_45, LEN_49, LEN_53, LEN_54, LEN_57, LEN_86, LEN_88, LEN_147, Option.isSome_none]
    refine ((ldSn hb58).2 _).2 ?_
    refine ((ldSn hb38).2 _).2 ?_
    refine neSn.2 ?_
    simp only [xP_nil, xP_pick, xP_func, xP_not, xP_add, xP_sub, xP_mul, xP_lss, xP_leq, xP_gtr, xP_geq, xP_max2, xP_min2, xR_eql, xR_neq, Nat.zero_add, Nat.add_zero, Nat.reduceAdd, List.getD_cons_zero, List.getD_cons_succ, xIf_true, xIf_false, FA_25_0, FA_39_0, FA_41_0, FA_41_1, FA_41_2, FA_56_0, FA_56_1, FA_56_2, FA_56_3, FA_56_4, FA_56_5, FA_72_0, FA_79_0, FA_79_1, FA_93_0, FA_93_1, FA_93_2, FA_102_2, FA_123_0, FA_123_1, FA_123_2, FA_123_3, FA_123_4, FA_131_0, FA_131_1, FA_131_2, LEN_35, LEN_45, LEN_49, LEN_53, LEN_54, LEN_57, LEN_86, LEN_88, LEN_147, decide_true, Bool.not_true]
    have kk : ∀ (w' : World) (K : Value → World → Prop), Glob w' → (∀ w'', Kept [] w' w'' → K (.int .i64 12) w'') → xE Tryd.prog (sCall 14 #[optV (some (.flt opDA k (.no 12)))]) w' K := fun w' K hg' hK =>
      xE_call CF_14 (kind_ok (e := .flt opDA k (.no 12)) trivial hg') (fun u w'' ⟨h1, h2⟩ => by subst h1; exact hK w'' h2)
    refine kk w8 _ (hg.kept0 hk08) fun w9 hk9 => ?_
    simp only [xP_nil, xP_pick, xP_func, xP_not, xP_add, xP_sub, xP_mul, xP_lss, xP_leq, xP_gtr, xP_geq, xP_max2, xP_min2, xR_eql, xR_neq, Nat.zero_add, Nat.add_zero, Nat.reduceAdd, List.getD_cons_zero, List.getD_cons_succ, xIf_true, xIf_false, FA_25_0, FA_39_0, FA_41_0, FA_41_1, FA_41_2, FA_56_0, FA_56_1, FA_56_2, FA_56_3, FA_56_4, FA_56_5, FA_72_0, FA_79_0, FA_79_1, FA_93_0, FA_93_1, FA_93_2, FA_102_2, FA_123_0, FA_123_1, FA_123_2, FA_123_3, FA_123_4, FA_131_0, FA_131_1, FA_131_2, LEN_35, LEN_45, LEN_49, LEN_53, LEN_54, LEN_57, LEN_86, LEN_88, LEN_147, show decide ((12 : Int) ≠ 12) = false from rfl]
    refine optV_neq.2 ?_
    simp only [xP_nil, xP_pick, xP_func, xP_not, xP_add, xP_sub, xP_mul, xP_lss, xP_leq, xP_gtr, xP_geq, xP_max2, xP_min2, xR_eql, xR_neq, Nat.zero_add, Nat.add_zero, Nat.reduceAdd, List.getD_cons_zero, List.getD_cons_succ, xIf_true, xIf_false, FA_25_0, FA_39_0, FA_41_0, FA_41_1, FA_41_2, FA_56_0, FA_56_1, FA_56_2, FA_56_3, FA_56_4, FA_56_5, FA_72_0, FA_79_0, FA_79_1, FA_93_0, FA_93_1, FA_93_2, FA_102_2, FA_123_0, FA_123_1, FA_123_2, FA_123_3, FA_123_4, FA_131_0, FA_131_1, FA_131_2, LEN_35, LEN_45, LEN_49, LEN_53, LEN_54, LEN_57, LEN_86, LEN_88, LEN_147, Option.isSome_none]
    have hk09 := hk08.then hk9 (by simp)
    refine kk w9 _ (hg.kept0 hk09) fun w10 hk10 => ?_
    simp only [xP_nil, xP_pick, xP_func, xP_not, xP_add, xP_sub, xP_mul, xP_lss, xP_leq, xP_gtr, xP_geq, xP_max2, xP_min2, xR_eql, xR_neq, Nat.zero_add, Nat.add_zero, Nat.reduceAdd, List.getD_cons_zero, List.getD_cons_succ, xIf_true, xIf_false, FA_25_0, FA_39_0, FA_41_0, FA_41_1, FA_41_2, FA_56_0, FA_56_1, FA_56_2, FA_56_3, FA_56_4, FA_56_5, FA_72_0, FA_79_0, FA_79_1, FA_93_0, FA_93_1, FA_93_2, FA_102_2, FA_123_0, FA_123_1, FA_123_2, FA_123_3, FA_123_4, FA_131_0, FA_131_1, FA_131_2, LEN_35, LEN_45, LEN_49, LEN_53, LEN_54, LEN_57, LEN_86, LEN_88, LEN_147, show decide ((12 : Int) ≠ 12) = false from rfl]
    refine xE_call CF_15 (len_ok ((h8.kept0 hk9).kept0 hk10)) ?_
    rintro _ _ ⟨rfl, rfl⟩
    simp only [xP_nil, xP_pick, xP_func, xP_not, xP_add, xP_sub, xP_mul, xP_lss, xP_leq, xP_gtr, xP_geq, xP_max2, xP_min2, xR_eql, xR_neq, Nat.zero_add, Nat.add_zero, Nat.reduceAdd, List.getD_cons_zero, List.getD_cons_succ, xIf_true, xIf_false, FA_25_0, FA_39_0, FA_41_0, FA_41_1, FA_41_2, FA_56_0, FA_56_1, FA_56_2, FA_56_3, FA_56_4, FA_56_5, FA_72_0, FA_79_0, FA_79_1, FA_93_0, FA_93_1, FA_93_2, FA_102_2, FA_123_0, FA_123_1, FA_123_2, FA_123_3, FA_123_4, FA_131_0, FA_131_1, FA_131_2, LEN_35, LEN_45, LEN_49, LEN_53, LEN_54, LEN_57, LEN_86, LEN_88, LEN_147, lastM, List.length_cons, List.length_nil, show decide (((0 + 1 : Nat) : Int) ≠ 1) = false from rfl]
    intro _
    try simp only [xP_nil, xP_pick, xP_func, xP_not, xP_add, xP_sub, xP_mul, xP_lss, xP_leq, xP_gtr, xP_geq, xP_max2, xP_min2, xR_eql, xR_neq, Nat.zero_add, Nat.add_zero, Nat.reduceAdd, List.getD_cons_zero, List.getD_cons_succ, xIf_true, xIf_false, FA_25_0, FA_39_0, FA_41_0, FA_41_1, FA_41_2, FA_56_0, FA_56_1, FA_56_2, FA_56_3, FA_56_4, FA_56_5, FA_72_0, FA_79_0, FA_79_1, FA_93_0, FA_93_1, FA_93_2, FA_102_2, FA_123_0, FA_123_1, FA_123_2, FA_123_3, FA_123_4, FA_131_0, FA_131_1, FA_131_2, LEN_35, LEN_45, LEN_49, LEN_53, LEN_54, LEN_57, LEN_86, LEN_88, LEN_147]
    rw [wrap64 (by omega) (by omega)]
    exact ⟨⟨i + 1, some s, rfl, hlt.1, by omega, (h8.kept0 hk9).kept0 hk10, hk09.then hk10 (by simp)⟩, by omega⟩
  · refine xE_call CF_3 (runs_ok (hg.kept0 hk2)) ?_
    rintro _ w4 ⟨rfl, hk4⟩
    exact ⟨rfl, hk2.then hk4 (by simp)⟩
end Go.Proofs.YtbfaglbfpmnnmaaDoor
