import Derived.Test.YtjajjblppogfoaaDoorXpPlog2
namespace Go.Proofs.YtjajjblppogfoaaDoor
set_option linter.unusedSimpArgs false
set_option linter.unusedVariables false
set_option maxRecDepth 100000
attribute [local irreducible] Go.X.xE
open Go Go.X Go.RowKit

theorem FH2 {K : Value → Prop} {h : Hd} : xP Tryd.prog (sField 64 (vH h) 2) K ↔ K (.int .i64 h.time) := xP_field (show fieldOneB Tryd.prog 64 2 2 = true by kernel_rfl) rfl
def Lg.dropN (L : Lg) : Nat → Lg
  | 0 => L
  | n + 1 => (L.dropN n).drop1
theorem drop1_hs (L : Lg) : L.drop1.hs = L.hs.drop 1 := by
  unfold Lg.drop1
  split
  · rename_i h; rw [h]; rfl
  · rename_i h; rw [h]; rfl
theorem dropN_hs (L : Lg) : ∀ n, (L.dropN n).hs = L.hs.drop n
  | 0 => by simp [Lg.dropN]
  | n + 1 => by simp only [Lg.dropN]; rw [drop1_hs, dropN_hs L n, List.drop_drop]
theorem dropN_ok {L : Lg} (h : L.Ok) : ∀ n, (L.dropN n).Ok
  | 0 => h
  | n + 1 => Lg.drop1_ok (dropN_ok h n)
theorem drop1_next (L : Lg) : L.drop1.next = L.next := by unfold Lg.drop1; split <;> rfl
theorem dropN_next (L : Lg) : ∀ n, (L.dropN n).next = L.next
  | 0 => rfl
  | n + 1 => by simp only [Lg.dropN]; rw [drop1_next, dropN_next L n]
theorem drop1_start {L : Lg} (h : L.Ok) : L.start ≤ L.drop1.start := by
  unfold Lg.drop1
  split
  · exact Int.le_refl _
  · rename_i y ys hl
    have := h.first y (by rw [hl]; rfl)
    show L.start ≤ y.base + y.count
    omega
theorem dropN_start {L : Lg} (h : L.Ok) : ∀ n, L.start ≤ (L.dropN n).start
  | 0 => Int.le_refl _
  | n + 1 => Int.le_trans (dropN_start h n) (drop1_start (dropN_ok h n))
def Lg.keepN (L : Lg) (most : Int) : Nat := if 0 ≤ most then ((L.hs.length : Int) - most).toNat else 0
theorem pkeep_ok {L : Lg} {p : Nat} {F : List Nat} {most : Int} {w : World} (h : LogI w p L F) (hok : L.Ok) (hlen : L.hs.length ≤ 100000) :
    Gives Tryd.prog 33 #[.pointer (some ⟨p, 0, none⟩), .int .i64 most] w fun u w' => ∃ F', u = .int .i64 (L.keepN most) ∧ LogI w' p (L.dropN (L.keepN most)) F' ∧ Kept F w w' ∧ ∀ g ∈ F', g ∈ F ∨ w.heap.size ≤ g := by
  refine C_plog_Log_Keep ?_
  unfold S_plog_Log_Keep
  refine xLoop_of (fun ls w' => ∃ (i : Nat) (F' : List Nat), ls = [.int .i64 i] ∧ i ≤ L.keepN most ∧ LogI w' p (L.dropN i) F' ∧ Kept F w w' ∧ ∀ g ∈ F', g ∈ F ∨ w.heap.size ≤ g)
    (fun ls _ => match ls with | [.int _ i] => L.keepN most - i.toNat | _ => 0) ⟨0, F, rfl, by omega, h, Kept.refl _ _, fun g hg => .inl hg⟩ ?_
  rintro _ _ w1 ⟨i, F1, rfl, hi, h1, hk1, hF1⟩
  have hkl : L.keepN most ≤ L.hs.length := by unfold Lg.keepN; split <;> omega
  have hhs := dropN_hs L i
  refine xJoin_of (fun ls w' => ls = [.bool (decide (i < L.keepN most))] ∧ Kept [] w1 w') ?_ ?_
  · obtain ⟨b, Fx, a1, a2, a3, rfl⟩ := h1
    obtain ⟨L0, L1, L2⟩ := ldL a1
    simp only [xP_nil, xP_pick, xP_func, xP_not, xP_add, xP_sub, xP_mul, xP_lss, xP_leq, xP_gtr, xP_geq, xP_max2, xP_min2, xR_eql, xR_neq, Nat.zero_add, Nat.add_zero, Nat.reduceAdd, List.getD_cons_zero, List.getD_cons_succ, xIf_true, xIf_false, FA_40_0, FA_40_1, FA_64_0, FA_64_1, FA_64_2, FA_67_0, FA_67_1, FA_67_2, FA_67_3, FA_75_0, FA_75_1, FA_75_2, FA_75_3, FA_82_0, FA_82_1, FA_82_2, FA_96_0, FA_96_1, FA_96_2, FA_123_0, FA_123_1, FA_123_2, LEN_34, LEN_38, LEN_51, LEN_56, LEN_60, LEN_65, LEN_83, LEN_88, L0, xIf_dec]
    refine ⟨fun hm => ?_, fun hm => ⟨?_, Kept.refl _ _⟩⟩
    · refine ilenS a2 fun w2 hk2 => ?_
      simp only [xP_nil, xP_pick, xP_func, xP_not, xP_add, xP_sub, xP_mul, xP_lss, xP_leq, xP_gtr, xP_geq, xP_max2, xP_min2, xR_eql, xR_neq, Nat.zero_add, Nat.add_zero, Nat.reduceAdd, List.getD_cons_zero, List.getD_cons_succ, xIf_true, xIf_false, FA_40_0, FA_40_1, FA_64_0, FA_64_1, FA_64_2, FA_67_0, FA_67_1, FA_67_2, FA_67_3, FA_75_0, FA_75_1, FA_75_2, FA_75_3, FA_82_0, FA_82_1, FA_82_2, FA_96_0, FA_96_1, FA_96_2, FA_123_0, FA_123_1, FA_123_2, LEN_34, LEN_38, LEN_51, LEN_56, LEN_60, LEN_65, LEN_83, LEN_88]
      refine ⟨?_, hk2⟩
      rw [hhs, List.length_drop]
      rw [decide_eq_decide.2 (show (most < ((L.hs.length - i : Nat) : Int)) ↔ i < L.keepN most by unfold Lg.keepN; rw [if_pos hm]; omega)]
    · rw [decide_eq_false (by unfold Lg.keepN; rw [if_neg hm]; omega)]
  rintro _ _ w2 ⟨rfl, hk2⟩
  have h2 := h1.kept0 hk2
  have hk02 := hk1.then hk2 (by simp)
  have hz1 := hk1.size
  simp only [List.getD_cons_zero, xIf_dec]
  refine ⟨fun hgo => ?_, fun hstop => ?_⟩
  · refine xE_call CF_55 (pdrop_ok h2 (dropN_ok hok i) (by rw [hhs, List.length_drop]; omega) (fun hn => by have := congrArg List.length hn; rw [hhs, List.length_drop] at this; simp at this; omega)) ?_
    rintro _ w3 ⟨F3, h3, hk3, hF3⟩
    simp only [xP_nil, xP_pick, xP_func, xP_not, xP_add, xP_sub, xP_mul, xP_lss, xP_leq, xP_gtr, xP_geq, xP_max2, xP_min2, xR_eql, xR_neq, Nat.zero_add, Nat.add_zero, Nat.reduceAdd, List.getD_cons_zero, List.getD_cons_succ, xIf_true, xIf_false, FA_40_0, FA_40_1, FA_64_0, FA_64_1, FA_64_2, FA_67_0, FA_67_1, FA_67_2, FA_67_3, FA_75_0, FA_75_1, FA_75_2, FA_75_3, FA_82_0, FA_82_1, FA_82_2, FA_96_0, FA_96_1, FA_96_2, FA_123_0, FA_123_1, FA_123_2, LEN_34, LEN_38, LEN_51, LEN_56, LEN_60, LEN_65, LEN_83, LEN_88]
    rw [wrap64 (by omega) (by omega)]
    have hz2 := hk02.size
    refine ⟨⟨i + 1, F3, rfl, hgo, h3, hk02.then hk3 hF1, fun g hg => (hF3 g hg).elim (hF1 g) (fun h => .inr (by omega))⟩, by omega⟩
  · obtain rfl : i = L.keepN most := by omega
    exact ⟨F1, rfl, h2, hk02, hF1⟩
def Lg.olderN (L : Lg) (t : Int) : Nat := L.hs.findIdx fun h => decide (t ≤ h.time)
theorem polder_ok {L : Lg} {p : Nat} {F : List Nat} {t : Int} {w : World} (h : LogI w p L F) (hok : L.Ok) (hlen : L.hs.length ≤ 100000) :
    Gives Tryd.prog 34 #[.pointer (some ⟨p, 0, none⟩), .int .i64 t] w fun u w' => ∃ F', u = .int .i64 (L.olderN t) ∧ LogI w' p (L.dropN (L.olderN t)) F' ∧ Kept F w w' ∧ ∀ g ∈ F', g ∈ F ∨ w.heap.size ≤ g := by
  refine C_plog_Log_Older ?_
  unfold S_plog_Log_Older
  have hol : L.olderN t ≤ L.hs.length := List.findIdx_le_length
  refine xLoop_of (fun ls w' => ∃ (i : Nat) (F' : List Nat), ls = [.int .i64 i] ∧ i ≤ L.olderN t ∧ LogI w' p (L.dropN i) F' ∧ Kept F w w' ∧ ∀ g ∈ F', g ∈ F ∨ w.heap.size ≤ g)
    (fun ls _ => match ls with | [.int _ i] => L.olderN t - i.toNat | _ => 0) ⟨0, F, rfl, by omega, h, Kept.refl _ _, fun g hg => .inl hg⟩ ?_
  rintro _ _ w1 ⟨i, F1, rfl, hi, h1, hk1, hF1⟩
  have hhs := dropN_hs L i
  refine xJoin_of (fun ls w' => ls = [.bool (decide (i < L.olderN t))] ∧ Kept [] w1 w') ?_ ?_
  · obtain ⟨b, Fx, a1, a2, a3, rfl⟩ := h1
    obtain ⟨L0, L1, L2⟩ := ldL a1
    simp only [xP_nil, xP_pick, xP_func, xP_not, xP_add, xP_sub, xP_mul, xP_lss, xP_leq, xP_gtr, xP_geq, xP_max2, xP_min2, xR_eql, xR_neq, Nat.zero_add, Nat.add_zero, Nat.reduceAdd, List.getD_cons_zero, List.getD_cons_succ, xIf_true, xIf_false, FA_40_0, FA_40_1, FA_64_0, FA_64_1, FA_64_2, FA_67_0, FA_67_1, FA_67_2, FA_67_3, FA_75_0, FA_75_1, FA_75_2, FA_75_3, FA_82_0, FA_82_1, FA_82_2, FA_96_0, FA_96_1, FA_96_2, FA_123_0, FA_123_1, FA_123_2, LEN_34, LEN_38, LEN_51, LEN_56, LEN_60, LEN_65, LEN_83, LEN_88, L0]
    refine ilenS a2 fun w2 hk2 => ?_
    simp only [xP_nil, xP_pick, xP_func, xP_not, xP_add, xP_sub, xP_mul, xP_lss, xP_leq, xP_gtr, xP_geq, xP_max2, xP_min2, xR_eql, xR_neq, Nat.zero_add, Nat.add_zero, Nat.reduceAdd, List.getD_cons_zero, List.getD_cons_succ, xIf_true, xIf_false, FA_40_0, FA_40_1, FA_64_0, FA_64_1, FA_64_2, FA_67_0, FA_67_1, FA_67_2, FA_67_3, FA_75_0, FA_75_1, FA_75_2, FA_75_3, FA_82_0, FA_82_1, FA_82_2, FA_96_0, FA_96_1, FA_96_2, FA_123_0, FA_123_1, FA_123_2, LEN_34, LEN_38, LEN_51, LEN_56, LEN_60, LEN_65, LEN_83, LEN_88, xIf_dec]
    have hdl : (L.dropN i).hs.length = L.hs.length - i := by rw [hhs, List.length_drop]
    refine ⟨fun hpos => ?_, fun hno => ⟨?_, hk2⟩⟩
    · obtain ⟨M0, M1, M2⟩ := ldL (a1.kept hk2 (by simp))
      simp only [xP_nil, xP_pick, xP_func, xP_not, xP_add, xP_sub, xP_mul, xP_lss, xP_leq, xP_gtr, xP_geq, xP_max2, xP_min2, xR_eql, xR_neq, Nat.zero_add, Nat.add_zero, Nat.reduceAdd, List.getD_cons_zero, List.getD_cons_succ, xIf_true, xIf_false, FA_40_0, FA_40_1, FA_64_0, FA_64_1, FA_64_2, FA_67_0, FA_67_1, FA_67_2, FA_67_3, FA_75_0, FA_75_1, FA_75_2, FA_75_3, FA_82_0, FA_82_1, FA_82_2, FA_96_0, FA_96_1, FA_96_2, FA_123_0, FA_123_1, FA_123_2, LEN_34, LEN_38, LEN_51, LEN_56, LEN_60, LEN_65, LEN_83, LEN_88, M0]
      have h0 : 0 < (L.dropN i).hs.length := by omega
      refine headS (i := 0) (a2.kept hk2 (by simp)) h0 fun w3 hk3 => ?_
      have hil : i < L.hs.length := by omega
      have e0 : (L.dropN i).hs[0] = L.hs[i] := by simp [hhs]
      rw [e0]
      refine FH2.2 ?_
      simp only [xP_nil, xP_pick, xP_func, xP_not, xP_add, xP_sub, xP_mul, xP_lss, xP_leq, xP_gtr, xP_geq, xP_max2, xP_min2, xR_eql, xR_neq, Nat.zero_add, Nat.add_zero, Nat.reduceAdd, List.getD_cons_zero, List.getD_cons_succ, xIf_true, xIf_false, FA_40_0, FA_40_1, FA_64_0, FA_64_1, FA_64_2, FA_67_0, FA_67_1, FA_67_2, FA_67_3, FA_75_0, FA_75_1, FA_75_2, FA_75_3, FA_82_0, FA_82_1, FA_82_2, FA_96_0, FA_96_1, FA_96_2, FA_123_0, FA_123_1, FA_123_2, LEN_34, LEN_38, LEN_51, LEN_56, LEN_60, LEN_65, LEN_83, LEN_88]
      refine ⟨?_, hk2.then hk3 (by simp)⟩
      congr 2
      rw [decide_eq_decide.2]
      constructor
      · intro hlt
        rcases Nat.lt_or_ge i (L.olderN t) with hh | hh
        · exact hh
        · have hei : i = L.olderN t := by omega
          have hfl : L.hs.findIdx (fun h => decide (t ≤ h.time)) < L.hs.length := by unfold Lg.olderN at hei; omega
          have hp := List.findIdx_getElem (w := hfl)
          have : L.hs[i] = L.hs[L.hs.findIdx (fun h => decide (t ≤ h.time))]'hfl := by congr 1
          rw [← this] at hp
          have := of_decide_eq_true hp
          omega
      · intro hlt
        have hp : decide (t ≤ (L.hs[i]).time) = false := List.not_of_lt_findIdx hlt
        have := of_decide_eq_false hp
        omega
    · rw [decide_eq_false (by omega)]
  rintro _ _ w2 ⟨rfl, hk2⟩
  have h2 := h1.kept0 hk2
  have hk02 := hk1.then hk2 (by simp)
  have hz1 := hk1.size
  simp only [List.getD_cons_zero, xIf_dec]
  refine ⟨fun hgo => ?_, fun hstop => ?_⟩
  · refine xE_call CF_55 (pdrop_ok h2 (dropN_ok hok i) (by rw [hhs, List.length_drop]; omega) (fun hn => by have := congrArg List.length hn; rw [hhs, List.length_drop] at this; simp at this; omega)) ?_
    rintro _ w3 ⟨F3, h3, hk3, hF3⟩
    simp only [xP_nil, xP_pick, xP_func, xP_not, xP_add, xP_sub, xP_mul, xP_lss, xP_leq, xP_gtr, xP_geq, xP_max2, xP_min2, xR_eql, xR_neq, Nat.zero_add, Nat.add_zero, Nat.reduceAdd, List.getD_cons_zero, List.getD_cons_succ, xIf_true, xIf_false, FA_40_0, FA_40_1, FA_64_0, FA_64_1, FA_64_2, FA_67_0, FA_67_1, FA_67_2, FA_67_3, FA_75_0, FA_75_1, FA_75_2, FA_75_3, FA_82_0, FA_82_1, FA_82_2, FA_96_0, FA_96_1, FA_96_2, FA_123_0, FA_123_1, FA_123_2, LEN_34, LEN_38, LEN_51, LEN_56, LEN_60, LEN_65, LEN_83, LEN_88]
    rw [wrap64 (by omega) (by omega)]
    have hz2 := hk02.size
    refine ⟨⟨i + 1, F3, rfl, hgo, h3, hk02.then hk3 hF1, fun g hg => (hF3 g hg).elim (hF1 g) (fun h => .inr (by omega))⟩, by omega⟩
  · obtain rfl : i = L.olderN t := by omega
    exact ⟨F1, rfl, h2, hk02, hF1⟩
def Lg.at (L : Lg) (t : Int) : Int := match L.hs[L.olderN t]? with
  | some h => max L.start h.base
  | none => L.next
theorem pat_ok {L : Lg} {p : Nat} {F : List Nat} {t : Int} {w : World} (h : LogI w p L F) (hlen : L.hs.length ≤ 100000) :
    Gives Tryd.prog 32 #[.pointer (some ⟨p, 0, none⟩), .int .i64 t] w fun u w' => u = .int .i64 (L.at t) ∧ Kept [] w w' := by
  obtain ⟨b, Fx, h1, h2, h3, rfl⟩ := h
  refine C_plog_Log_At ?_
  unfold S_plog_Log_At
  obtain ⟨L0, L1, L2⟩ := ldL h1
  simp only [xP_nil, xP_pick, xP_func, xP_not, xP_add, xP_sub, xP_mul, xP_lss, xP_leq, xP_gtr, xP_geq, xP_max2, xP_min2, xR_eql, xR_neq, Nat.zero_add, Nat.add_zero, Nat.reduceAdd, List.getD_cons_zero, List.getD_cons_succ, xIf_true, xIf_false, FA_40_0, FA_40_1, FA_64_0, FA_64_1, FA_64_2, FA_67_0, FA_67_1, FA_67_2, FA_67_3, FA_75_0, FA_75_1, FA_75_2, FA_75_3, FA_82_0, FA_82_1, FA_82_2, FA_96_0, FA_96_1, FA_96_2, FA_123_0, FA_123_1, FA_123_2, LEN_34, LEN_38, LEN_51, LEN_56, LEN_60, LEN_65, LEN_83, LEN_88, L0]
  refine xE_call CF_54 (when_ok (t := t) h2 (by omega)) ?_
  rintro _ w1 ⟨rfl, hk1⟩
  obtain ⟨M0, M1, M2⟩ := ldL (h1.kept hk1 (by simp))
  simp only [xP_nil, xP_pick, xP_func, xP_not, xP_add, xP_sub, xP_mul, xP_lss, xP_leq, xP_gtr, xP_geq, xP_max2, xP_min2, xR_eql, xR_neq, Nat.zero_add, Nat.add_zero, Nat.reduceAdd, List.getD_cons_zero, List.getD_cons_succ, xIf_true, xIf_false, FA_40_0, FA_40_1, FA_64_0, FA_64_1, FA_64_2, FA_67_0, FA_67_1, FA_67_2, FA_67_3, FA_75_0, FA_75_1, FA_75_2, FA_75_3, FA_82_0, FA_82_1, FA_82_2, FA_96_0, FA_96_1, FA_96_2, FA_123_0, FA_123_1, FA_123_2, LEN_34, LEN_38, LEN_51, LEN_56, LEN_60, LEN_65, LEN_83, LEN_88, M0]
  refine ilenS (h2.kept hk1 (by simp)) fun w2 hk2 => ?_
  have hk02 := hk1.then hk2 (by simp)
  have hol : L.olderN t ≤ L.hs.length := List.findIdx_le_length
  have eol : (L.hs.findIdx fun h => decide (t ≤ h.time)) = L.olderN t := rfl
  rw [eol]
  simp only [xP_nil, xP_pick, xP_func, xP_not, xP_add, xP_sub, xP_mul, xP_lss, xP_leq, xP_gtr, xP_geq, xP_max2, xP_min2, xR_eql, xR_neq, Nat.zero_add, Nat.add_zero, Nat.reduceAdd, List.getD_cons_zero, List.getD_cons_succ, xIf_true, xIf_false, FA_40_0, FA_40_1, FA_64_0, FA_64_1, FA_64_2, FA_67_0, FA_67_1, FA_67_2, FA_67_3, FA_75_0, FA_75_1, FA_75_2, FA_75_3, FA_82_0, FA_82_1, FA_82_2, FA_96_0, FA_96_1, FA_96_2, FA_123_0, FA_123_1, FA_123_2, LEN_34, LEN_38, LEN_51, LEN_56, LEN_60, LEN_65, LEN_83, LEN_88, xIf_dec]
  unfold Lg.at
  refine ⟨fun he => ?_, fun hne => ?_⟩
  · obtain ⟨N0, N1, N2⟩ := ldL (h1.kept hk02 (by simp))
    simp only [xP_nil, xP_pick, xP_func, xP_not, xP_add, xP_sub, xP_mul, xP_lss, xP_leq, xP_gtr, xP_geq, xP_max2, xP_min2, xR_eql, xR_neq, Nat.zero_add, Nat.add_zero, Nat.reduceAdd, List.getD_cons_zero, List.getD_cons_succ, xIf_true, xIf_false, FA_40_0, FA_40_1, FA_64_0, FA_64_1, FA_64_2, FA_67_0, FA_67_1, FA_67_2, FA_67_3, FA_75_0, FA_75_1, FA_75_2, FA_75_3, FA_82_0, FA_82_1, FA_82_2, FA_96_0, FA_96_1, FA_96_2, FA_123_0, FA_123_1, FA_123_2, LEN_34, LEN_38, LEN_51, LEN_56, LEN_60, LEN_65, LEN_83, LEN_88, N2]
    refine ⟨?_, hk02⟩
    rw [List.getElem?_eq_none (by omega)]
  · have hlt : L.olderN t < L.hs.length := by omega
    have hd := kept_drew [] w2
    have hk0d := hk02.then hd (by simp)
    obtain ⟨N0, N1, N2⟩ := ldL (h1.kept hk0d (by simp))
    simp only [xP_nil, xP_pick, xP_func, xP_not, xP_add, xP_sub, xP_mul, xP_lss, xP_leq, xP_gtr, xP_geq, xP_max2, xP_min2, xR_eql, xR_neq, Nat.zero_add, Nat.add_zero, Nat.reduceAdd, List.getD_cons_zero, List.getD_cons_succ, xIf_true, xIf_false, FA_40_0, FA_40_1, FA_64_0, FA_64_1, FA_64_2, FA_67_0, FA_67_1, FA_67_2, FA_67_3, FA_75_0, FA_75_1, FA_75_2, FA_75_3, FA_82_0, FA_82_1, FA_82_2, FA_96_0, FA_96_1, FA_96_2, FA_123_0, FA_123_1, FA_123_2, LEN_34, LEN_38, LEN_51, LEN_56, LEN_60, LEN_65, LEN_83, LEN_88, N0, N1]
    refine headS (h2.kept hk0d (by simp)) hlt fun w3 hk3 => ?_
    have hk03 := hk0d.then hk3 (by simp)
    refine (still1 ONE_3 ((h1.kept hk03 (by simp)).cell (o := 1))).2 ?_
    refine FH0.2 ?_
    simp only [xP_nil, xP_pick, xP_func, xP_not, xP_add, xP_sub, xP_mul, xP_lss, xP_leq, xP_gtr, xP_geq, xP_max2, xP_min2, xR_eql, xR_neq, Nat.zero_add, Nat.add_zero, Nat.reduceAdd, List.getD_cons_zero, List.getD_cons_succ, xIf_true, xIf_false, FA_40_0, FA_40_1, FA_64_0, FA_64_1, FA_64_2, FA_67_0, FA_67_1, FA_67_2, FA_67_3, FA_75_0, FA_75_1, FA_75_2, FA_75_3, FA_82_0, FA_82_1, FA_82_2, FA_96_0, FA_96_1, FA_96_2, FA_123_0, FA_123_1, FA_123_2, LEN_34, LEN_38, LEN_51, LEN_56, LEN_60, LEN_65, LEN_83, LEN_88]
    refine ⟨?_, hk03⟩
    rw [List.getElem?_eq_getElem hlt]
end Go.Proofs.YtjajjblppogfoaaDoor
