import Derived.Test.YtbfaglbfpmnnmaaDoorXdReply4D
import Derived.Test.YtbfaglbfpmnnmaaDoorXReplyP
import Derived.Test.YtbfaglbfpmnnmaaDoorXB
namespace Go.Proofs.YtbfaglbfpmnnmaaDoor
set_option linter.unusedSimpArgs false
set_option linter.unusedVariables false
set_option maxRecDepth 100000
attribute [local irreducible] Go.X.xE
open Go Go.X

def cut (k : Nat) (s : ByteArray) : ByteArray := s.extract 0 k
theorem cut_size (k : Nat) (s : ByteArray) : (cut k s).size ≤ k := by unfold cut; rw [ByteArray.size_extract]; omega
def cutT (p : Int × ByteArray) : Int × ByteArray := (p.1, cut 610 p.2)
def fewR (r : Rp) : Rp := { r with names := (r.names.take 10).map (cut 30), batches := (r.batches.take 6).map cutT }
theorem fewR_ok (r : Rp) : okRp (fewR r) := by
  refine ⟨by simp [fewR]; omega, by simp [fewR]; omega, fun p hp => ?_⟩
  simp only [fewR] at hp
  obtain ⟨q, -, rfl⟩ := List.mem_map.1 hp
  have := cut_size 610 q.2
  show (cut 610 q.2).size ≤ _
  omega

theorem few2_ok {x : RawRp} {r : Rp} {w : World} (h : IsRp w x r) :
    Gives Tryd.prog 20 #[vR x] w fun u w' => ∃ y, u = vR y ∧ IsRp w' y (fewR r) ∧ Kept [] w w' ∧ Fr w.heap.size y.nv ∧ Fr w.heap.size y.bv ∧ Lt w'.heap.size y.nv ∧ Lt w'.heap.size y.bv := by
  refine C_stavelaw23_few ?_
  unfold S_stavelaw23_few
  refine xE_box fun w1 hb1 hk1 hz1 => ?_
  refine xE_alloc Z_56 fun w2 hb2 hk2 hz2 => ?_
  have hb1' : Blk w2 w.heap.size 56 (encR x) := Blk.kept hb1 hk2 (by simp)
  have hb2' : Blk w2 w1.heap.size 56 (encR rawRp0) := hb2
  have hk02 : Kept [] w w2 := hk1.then hk2 (by simp)
  generalize eB : w.heap.size = B at *
  generalize eB1 : w1.heap.size = B1 at *
  refine xLoop_of (fun vs w' => ∃ (i : Nat) (o : Value) (F : List Nat), vs = [o, .int .i64 i] ∧ i ≤ r.names.length ∧ i ≤ 10 ∧ Own w' 9 1 o i (((r.names.take i).map (cut 30)).flatMap encS) F ∧ (∀ g ∈ F, B1 + 1 ≤ g) ∧ Blk w' B 56 (encR x) ∧ Blk w' B1 56 (encR rawRp0) ∧ Kept [] w w' ∧ B1 + 1 ≤ w'.heap.size)
    (fun vs _ => match vs with | [_, .int _ i] => 10 - i.toNat | _ => 0) ⟨0, .slice none 0 0, [], rfl, by omega, by omega, own_nil _ _ _, by simp, hb1', hb2', hk02, by omega⟩ ?_
  rintro _ _ w3 ⟨i, o, F, rfl, hi, hi10, ho, hF, hb3, hb23, hk3, hz3⟩
  obtain ⟨L0, L1, L2, L3, L4, L5, L6⟩ := ldR hb3
  obtain ⟨na, nc, hnv, hnc, hnr⟩ := h.names
  have hnm : SlT w encS (.slice na r.names.length nc) r.names := ⟨na, nc, rfl, hnc, hnr⟩
  refine xJoin_of (fun vs w' => vs = [.bool (decide (i < r.names.length ∧ i < 10))] ∧ w3 = w') ?_ ?_
  · simp only [xP_nil, xP_pick, xP_func, xP_not, xP_add, xP_sub, xP_mul, xP_lss, xP_leq, xP_gtr, xP_geq, xP_max2, xP_min2, xR_eql, xR_neq, Nat.zero_add, Nat.add_zero, Nat.reduceAdd, List.getD_cons_zero, List.getD_cons_succ, xIf_true, xIf_false, FA_25_0, FA_39_0, FA_41_0, FA_41_1, FA_41_2, FA_56_0, FA_56_1, FA_56_2, FA_56_3, FA_56_4, FA_56_5, FA_72_0, FA_79_0, FA_79_1, FA_93_0, FA_93_1, FA_93_2, FA_102_2, FA_123_0, FA_123_1, FA_123_2, FA_123_3, FA_123_4, FA_131_0, FA_131_1, FA_131_2, LEN_35, LEN_45, LEN_49, LEN_53, LEN_54, LEN_57, LEN_86, LEN_88, LEN_147, L4, hnv, xIf_dec]
    refine ⟨fun h1 => ⟨by rw [decide_eq_decide.2 (show ((i : Int) < 10) ↔ (i < r.names.length ∧ i < 10) by omega)], trivial⟩, fun h1 => ⟨by rw [decide_eq_false (show ¬ (i < r.names.length ∧ i < 10) by omega)], trivial⟩⟩
  rintro _ _ _ ⟨rfl, rfl⟩
  simp only [xP_nil, xP_pick, xP_func, xP_not, xP_add, xP_sub, xP_mul, xP_lss, xP_leq, xP_gtr, xP_geq, xP_max2, xP_min2, xR_eql, xR_neq, Nat.zero_add, Nat.add_zero, Nat.reduceAdd, List.getD_cons_zero, List.getD_cons_succ, xIf_true, xIf_false, FA_25_0, FA_39_0, FA_41_0, FA_41_1, FA_41_2, FA_56_0, FA_56_1, FA_56_2, FA_56_3, FA_56_4, FA_56_5, FA_72_0, FA_79_0, FA_79_1, FA_93_0, FA_93_1, FA_93_2, FA_102_2, FA_123_0, FA_123_1, FA_123_2, FA_123_3, FA_123_4, FA_131_0, FA_131_1, FA_131_2, LEN_35, LEN_45, LEN_49, LEN_53, LEN_54, LEN_57, LEN_86, LEN_88, LEN_147, xIf_dec]
  refine ⟨fun hlt => ?_, fun hge => ?_⟩
  · have hkd : Kept [] w3 w3.drew := keptd
    obtain ⟨M0, M1, M2, M3, M4, M5, M6⟩ := ldR (hb3.kept hkd (by simp))
    simp only [M4, hnv]
    have hkd0 : Kept [] w w3.drew := hk3.then hkd (by simp)
    refine (rowS.get hnm hkd0 hlt.1).2 ?_
    refine (rowS.get hnm hkd0 hlt.1).2 ?_
    simp only [xP_lenS STR, xP_nil, xP_pick, xP_func, xP_not, xP_add, xP_sub, xP_mul, xP_lss, xP_leq, xP_gtr, xP_geq, xP_max2, xP_min2, xR_eql, xR_neq, Nat.zero_add, Nat.add_zero, Nat.reduceAdd, List.getD_cons_zero, List.getD_cons_succ, xIf_true, xIf_false, FA_25_0, FA_39_0, FA_41_0, FA_41_1, FA_41_2, FA_56_0, FA_56_1, FA_56_2, FA_56_3, FA_56_4, FA_56_5, FA_72_0, FA_79_0, FA_79_1, FA_93_0, FA_93_1, FA_93_2, FA_102_2, FA_123_0, FA_123_1, FA_123_2, FA_123_3, FA_123_4, FA_131_0, FA_131_1, FA_131_2, LEN_35, LEN_45, LEN_49, LEN_53, LEN_54, LEN_57, LEN_86, LEN_88, LEN_147]
    refine (xP_toS STR (by omega) (by omega)).2 ?_
    rw [show (min ((r.names[i].size : Nat) : Int) 30) = min ((r.names[i].size : Nat) : Int) (30 : Nat) from rfl, extract_min]
    refine xE_buildSlice EL_53 [.string (cut 30 r.names[i])] rfl rfl (by simp [Value.cells]) (by omega) (by omega) fun w4 hb4 hk4 hz4 => ?_
    have hk34 : Kept [] w3 w4 := hkd.then hk4 (by simp)
    have hz34 := hk34.size
    have hat : At w4 w3.drew.heap.size 0 ([cut 30 r.names[i]].flatMap encS) := hb4.at
    refine xE_append (m := 1) EL_53 (ho.kept hk34 (by simp)) hat rfl (by simp [encS]; rfl) (by omega) (by unfold maxLen; omega) (by omega) fun o' w5 F' ho' hk5 hF' _ => ?_
    have hz5 := hk5.size
    rw [wrap64 (by omega) (by omega)]
    refine ⟨⟨i + 1, o', F', rfl, hlt.1, by omega, ?_, fun g hg => (hF' g hg).elim (hF g) (fun h => by omega), (hb3.kept hk34 (by simp)).kept hk5 (fun hm => by have := hF _ hm; omega), (hb23.kept hk34 (by simp)).kept hk5 (fun hm => by have := hF _ hm; omega), (hk3.then hk34 (by simp)).then hk5 (fun g hg => .inr (by have := hF g hg; omega)), by omega⟩, by omega⟩
    rw [List.take_succ_eq_append_getElem hlt.1, List.map_append, List.flatMap_append]
    exact ho'
  · have etk : r.names.take i = r.names.take 10 := by
      rcases Nat.lt_or_ge i r.names.length with h1 | h1
      · have : i = 10 := by omega
        rw [this]
      · rw [List.take_of_length_le (by omega), List.take_of_length_le (by omega)]
    rw [etk] at ho
    have hi_len : i = ((r.names.take 10).map (cut 30)).length := by rw [List.length_map, ← etk, List.length_take]; omega
    have hnames3 : SlT w3 encS o ((r.names.take 10).map (cut 30)) := by rw [hi_len] at ho; exact ho.slT encS_len (by omega)
    have hone : o.oneCell' = true := hnames3.one
    obtain ⟨ba, bc, hbv, hbc, hbr⟩ := h.batches
    have hbt : SlT w encT (.slice ba r.batches.length bc) r.batches := ⟨ba, bc, rfl, hbc, hbr⟩
    refine xLoop_of (fun vs w' => ∃ (j : Nat) (o2 : Value) (F2 : List Nat), vs = [o2, .int .i64 j] ∧ j ≤ r.batches.length ∧ j ≤ 6 ∧ Own w' 79 2 o2 j (((r.batches.take j).map cutT).flatMap encT) F2 ∧ (∀ g ∈ F2, w3.heap.size ≤ g) ∧ Blk w' B 56 (encR x) ∧ Blk w' B1 56 (encR rawRp0) ∧ Kept [] w3 w')
      (fun vs _ => match vs with | [_, .int _ i] => 6 - i.toNat | _ => 0) ⟨0, .slice none 0 0, [], rfl, by omega, by omega, own_nil _ _ _, by simp, hb3, hb23, Kept.refl _ _⟩ ?_
    rintro _ _ w4 ⟨j, o2, F2, rfl, hj, hj6, ho2, hF2, hb4, hb24, hk4⟩
    have hz4 := hk4.size
    obtain ⟨N0, N1, N2, N3, N4, N5, N6⟩ := ldR hb4
    refine xJoin_of (fun vs w' => vs = [.bool (decide (j < r.batches.length ∧ j < 6))] ∧ w4 = w') ?_ ?_
    · simp only [xP_nil, xP_pick, xP_func, xP_not, xP_add, xP_sub, xP_mul, xP_lss, xP_leq, xP_gtr, xP_geq, xP_max2, xP_min2, xR_eql, xR_neq, Nat.zero_add, Nat.add_zero, Nat.reduceAdd, List.getD_cons_zero, List.getD_cons_succ, xIf_true, xIf_false, FA_25_0, FA_39_0, FA_41_0, FA_41_1, FA_41_2, FA_56_0, FA_56_1, FA_56_2, FA_56_3, FA_56_4, FA_56_5, FA_72_0, FA_79_0, FA_79_1, FA_93_0, FA_93_1, FA_93_2, FA_102_2, FA_123_0, FA_123_1, FA_123_2, FA_123_3, FA_123_4, FA_131_0, FA_131_1, FA_131_2, LEN_35, LEN_45, LEN_49, LEN_53, LEN_54, LEN_57, LEN_86, LEN_88, LEN_147, N5, hbv, xIf_dec]
      refine ⟨fun h1 => ⟨by rw [decide_eq_decide.2 (show ((j : Int) < 6) ↔ (j < r.batches.length ∧ j < 6) by omega)], trivial⟩, fun h1 => ⟨by rw [decide_eq_false (show ¬ (j < r.batches.length ∧ j < 6) by omega)], trivial⟩⟩
    rintro _ _ _ ⟨rfl, rfl⟩
    simp only [xP_nil, xP_pick, xP_func, xP_not, xP_add, xP_sub, xP_mul, xP_lss, xP_leq, xP_gtr, xP_geq, xP_max2, xP_min2, xR_eql, xR_neq, Nat.zero_add, Nat.add_zero, Nat.reduceAdd, List.getD_cons_zero, List.getD_cons_succ, xIf_true, xIf_false, FA_25_0, FA_39_0, FA_41_0, FA_41_1, FA_41_2, FA_56_0, FA_56_1, FA_56_2, FA_56_3, FA_56_4, FA_56_5, FA_72_0, FA_79_0, FA_79_1, FA_93_0, FA_93_1, FA_93_2, FA_102_2, FA_123_0, FA_123_1, FA_123_2, FA_123_3, FA_123_4, FA_131_0, FA_131_1, FA_131_2, LEN_35, LEN_45, LEN_49, LEN_53, LEN_54, LEN_57, LEN_86, LEN_88, LEN_147, xIf_dec]
    refine ⟨fun hlt => ?_, fun hge2 => ?_⟩
    · have hkd : Kept [] w4 w4.drew := keptd
      obtain ⟨M0, M1, M2, M3, M4, M5, M6⟩ := ldR (hb4.kept hkd (by simp))
      simp only [M5, hbv]
      have hkd0 : Kept [] w w4.drew := (hk3.then hk4 (by simp)).then hkd (by simp)
      obtain ⟨bb, oo, cc, he, hat⟩ := hbt.elem encT_len hlt.1
      have hat' := hat.kept hkd0 (by simp)
      cases he
      refine (xP_IAn SL_54 SZ_79 hlt.1).2 ?_
      simp only [xP_nil, xP_pick, xP_func, xP_not, xP_add, xP_sub, xP_mul, xP_lss, xP_leq, xP_gtr, xP_geq, xP_max2, xP_min2, xR_eql, xR_neq, Nat.zero_add, Nat.add_zero, Nat.reduceAdd, List.getD_cons_zero, List.getD_cons_succ, xIf_true, xIf_false, FA_25_0, FA_39_0, FA_41_0, FA_41_1, FA_41_2, FA_56_0, FA_56_1, FA_56_2, FA_56_3, FA_56_4, FA_56_5, FA_72_0, FA_79_0, FA_79_1, FA_93_0, FA_93_1, FA_93_2, FA_102_2, FA_123_0, FA_123_1, FA_123_2, FA_123_3, FA_123_4, FA_131_0, FA_131_1, FA_131_2, LEN_35, LEN_45, LEN_49, LEN_53, LEN_54, LEN_57, LEN_86, LEN_88, LEN_147]
      refine (ld1 ONE_3 (at_cell hat' (j := 0) rfl)).2 ?_
      refine (xP_IAn SL_54 SZ_79 hlt.1).2 ?_
      simp only [xP_nil, xP_pick, xP_func, xP_not, xP_add, xP_sub, xP_mul, xP_lss, xP_leq, xP_gtr, xP_geq, xP_max2, xP_min2, xR_eql, xR_neq, Nat.zero_add, Nat.add_zero, Nat.reduceAdd, List.getD_cons_zero, List.getD_cons_succ, xIf_true, xIf_false, FA_25_0, FA_39_0, FA_41_0, FA_41_1, FA_41_2, FA_56_0, FA_56_1, FA_56_2, FA_56_3, FA_56_4, FA_56_5, FA_72_0, FA_79_0, FA_79_1, FA_93_0, FA_93_1, FA_93_2, FA_102_2, FA_123_0, FA_123_1, FA_123_2, FA_123_3, FA_123_4, FA_131_0, FA_131_1, FA_131_2, LEN_35, LEN_45, LEN_49, LEN_53, LEN_54, LEN_57, LEN_86, LEN_88, LEN_147]
      refine (ld1 ONE_9 (at_cell hat' (j := 1) rfl)).2 ?_
      refine (xP_IAn SL_54 SZ_79 hlt.1).2 ?_
      simp only [xP_nil, xP_pick, xP_func, xP_not, xP_add, xP_sub, xP_mul, xP_lss, xP_leq, xP_gtr, xP_geq, xP_max2, xP_min2, xR_eql, xR_neq, Nat.zero_add, Nat.add_zero, Nat.reduceAdd, List.getD_cons_zero, List.getD_cons_succ, xIf_true, xIf_false, FA_25_0, FA_39_0, FA_41_0, FA_41_1, FA_41_2, FA_56_0, FA_56_1, FA_56_2, FA_56_3, FA_56_4, FA_56_5, FA_72_0, FA_79_0, FA_79_1, FA_93_0, FA_93_1, FA_93_2, FA_102_2, FA_123_0, FA_123_1, FA_123_2, FA_123_3, FA_123_4, FA_131_0, FA_131_1, FA_131_2, LEN_35, LEN_45, LEN_49, LEN_53, LEN_54, LEN_57, LEN_86, LEN_88, LEN_147]
      refine (ld1 ONE_9 (at_cell hat' (j := 1) rfl)).2 ?_
      simp only [xP_lenS STR, xP_nil, xP_pick, xP_func, xP_not, xP_add, xP_sub, xP_mul, xP_lss, xP_leq, xP_gtr, xP_geq, xP_max2, xP_min2, xR_eql, xR_neq, Nat.zero_add, Nat.add_zero, Nat.reduceAdd, List.getD_cons_zero, List.getD_cons_succ, xIf_true, xIf_false, FA_25_0, FA_39_0, FA_41_0, FA_41_1, FA_41_2, FA_56_0, FA_56_1, FA_56_2, FA_56_3, FA_56_4, FA_56_5, FA_72_0, FA_79_0, FA_79_1, FA_93_0, FA_93_1, FA_93_2, FA_102_2, FA_123_0, FA_123_1, FA_123_2, FA_123_3, FA_123_4, FA_131_0, FA_131_1, FA_131_2, LEN_35, LEN_45, LEN_49, LEN_53, LEN_54, LEN_57, LEN_86, LEN_88, LEN_147]
      refine (xP_toS STR (by omega) (by omega)).2 ?_
      rw [show (min ((r.batches[j].2.size : Nat) : Int) 610) = min ((r.batches[j].2.size : Nat) : Int) (610 : Nat) from rfl, extract_min]
      refine (xP_build (cells := #[.int .i64 r.batches[j].1, .string (cut 610 r.batches[j].2)]) (by kernel_rfl)).2 ?_
      refine xE_buildSlice EL_54 [vT (cutT r.batches[j])] rfl rfl (by simp [vT, encT, Value.cells]) (by omega) (by omega) fun w5 hb5 hk5 hz5 => ?_
      have hk45 : Kept [] w4 w5 := hkd.then hk5 (by simp)
      have hz45 := hk45.size
      have hat5 : At w5 w4.drew.heap.size 0 ([cutT r.batches[j]].flatMap encT) := by
        have := hb5.at
        simpa [vT, Value.cells] using this
      refine xE_append (m := 1) EL_54 (ho2.kept hk45 (by simp)) hat5 rfl (by intro u hu; simp at hu; exact encT_one _ u hu) (by omega) (by unfold maxLen; omega) (by omega) fun o' w6 F' ho' hk6 hF' _ => ?_
      have hz6 := hk6.size
      rw [wrap64 (by omega) (by omega)]
      have hBlt : B < w3.heap.size := hb3.lt
      have hB1lt : B1 < w3.heap.size := hb23.lt
      refine ⟨⟨j + 1, o', F', rfl, hlt.1, by omega, ?_, fun g hg => (hF' g hg).elim (hF2 g) (fun h => by omega), (hb4.kept hk45 (by simp)).kept hk6 (fun hm => by have := hF2 _ hm; omega), (hb24.kept hk45 (by simp)).kept hk6 (fun hm => by have := hF2 _ hm; omega), (hk4.then hk45 (by simp)).then hk6 (fun g hg => .inr (hF2 g hg))⟩, by omega⟩
      rw [List.take_succ_eq_append_getElem hlt.1, List.map_append, List.flatMap_append]
      exact ho'
    · have etk2 : r.batches.take j = r.batches.take 6 := by
        rcases Nat.lt_or_ge j r.batches.length with h1 | h1
        · have : j = 6 := by omega
          rw [this]
        · rw [List.take_of_length_le (by omega), List.take_of_length_le (by omega)]
      rw [etk2] at ho2
      have hj_len : j = ((r.batches.take 6).map cutT).length := by rw [List.length_map, ← etk2, List.length_take]; omega
      have hbat4 : SlT w4 encT o2 ((r.batches.take 6).map cutT) := by rw [hj_len] at ho2; exact ho2.slT encT_len (by omega)
      have hone2 : o2.oneCell' = true := hbat4.one
      have hnames4 := hnames3.kept0 hk4
      refine xE_store1 SZ_53 hb4 (by simp [encR]) hone fun w5 hb5 hk5 hz5 => ?_
      refine xE_store1 SZ_54 hb5 (by simp [encR]) hone2 fun w6 hb6 hk6 hz6 => ?_
      have hb6' : Blk w6 B 56 (encR { x with nv := o, bv := o2 }) := by simpa [encR] using hb6
      obtain ⟨Q0, Q1, Q2, Q3, Q4, Q5, Q6⟩ := ldR hb6'
      simp only [Q6]
      have hb26 : Blk w6 B1 56 (encR rawRp0) := (hb24.kept hk5 (by simp; omega)).kept hk6 (by simp; omega)
      have honeR : ∀ u ∈ encR { x with nv := o, bv := o2 }, u.oneCell' = true := by
        intro u hu
        simp [encR] at hu
        rcases hu with rfl | rfl | rfl | rfl | rfl | rfl <;> first | rfl | exact hone | exact hone2
      refine xE_storeN (l1 := []) (l2 := encR rawRp0) (l3 := []) SZ_56 hb26 rfl rfl rfl honeR fun w7 hb7 hk7 hz7 => ?_
      have hb7' : Blk w7 B1 56 (encR { x with nv := o, bv := o2 }) := by simpa [vR, Value.cells] using hb7
      obtain ⟨R0, R1, R2, R3, R4, R5, R6⟩ := ldR hb7'
      simp only [R6]
      have hk47 : Kept [B, B1] w4 w7 := ((hk5.mono (by simp)).then hk6 (by simp)).then hk7 (by simp)
      refine ⟨_, rfl, ⟨h.corr, h.err, h.base, h.next, hnames4.kept hk47 (fun bb oo n cc he hm => ?_), hbat4.kept hk47 (fun bb oo n cc he hm => ?_)⟩, ((hk3.then hk4 (by simp)).then hk47 (by intro k hk; simp at hk; omega)), fun bb oo n cc he => by have := hF _ (ho.addr bb oo n cc he); omega, fun bb oo n cc he => by have := hF2 _ (ho2.addr bb oo n cc he); have := hb23.lt; omega, fun bb oo n cc he => by have := ho.lt _ (ho.addr bb oo n cc he); have := hk4.size; have := hk47.size; omega, fun bb oo n cc he => by have := ho2.lt _ (ho2.addr bb oo n cc he); have := hk47.size; omega⟩
      · have := hF _ (ho.addr bb oo n cc he)
        simp at hm
        omega
      · have := hF2 _ (ho2.addr bb oo n cc he)
        have h1 : B < w3.heap.size := hb3.lt
        have h2 : B1 < w3.heap.size := hb23.lt
        simp at hm
        omega
theorem few_ok {x : RawRp} {r : Rp} {w : World} (h : IsRp w x r) :
    Gives Tryd.prog 20 #[vR x] w fun u w' => ∃ y, u = vR y ∧ IsRp w' y (fewR r) ∧ Kept [] w w' :=
  (few2_ok h).mono fun _ _ ⟨y, h1, h2, h3, _⟩ => ⟨y, h1, h2, h3⟩
end Go.Proofs.YtbfaglbfpmnnmaaDoor
