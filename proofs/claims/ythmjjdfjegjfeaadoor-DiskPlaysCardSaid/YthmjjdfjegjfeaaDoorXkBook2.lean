import Derived.Test.YthmjjdfjegjfeaaDoorXkBook1
namespace Go.Proofs.YthmjjdfjegjfeaaDoor
set_option linter.unusedSimpArgs false
set_option linter.unusedVariables false
set_option maxRecDepth 100000
attribute [local irreducible] Go.X.xE
open Go Go.X Go.RowKit

theorem roomyB_ok {l : List UInt8} {m : UInt8} {v : Value} {w : World} (hv : SlT w encB v l) (hl : l.length ≤ 1000000000) :
    Gives Tryd.prog 24 #[v, .int .u8 m.toNat] w fun u w' => ∃ g, u = .slice (some ⟨g, 0, none⟩) ((l.length + 80 : Nat) : Nat) (l.length + 80) ∧ Blk w' g 5 ((l ++ List.replicate 80 m).flatMap encB) ∧ w.heap.size ≤ g ∧ Kept [] w w' := by
  refine C_stavebook_Roomy_byte ?_
  unfold S_stavebook_Roomy_byte
  obtain ⟨a, c, rfl, hc, hr⟩ := hv
  have hv : SlT w encB (.slice a l.length c) l := ⟨a, c, rfl, hc, hr⟩
  try simp only [xP_nil, xP_pick, xP_func, xP_not, xP_add, xP_sub, xP_mul, xP_lss, xP_leq, xP_gtr, xP_geq, xP_max2, xP_min2, xR_eql, xR_neq, Nat.zero_add, Nat.add_zero, Nat.reduceAdd, List.getD_cons_zero, List.getD_cons_succ, xIf_true, xIf_false, FA_44_0, FA_44_1, FA_44_2, FA_44_3, FA_44_4, FA_44_5, FA_63_0, FA_63_1, FA_63_2, FA_63_3, FA_71_0, FA_71_1, FA_71_2, FA_71_3, FA_81_2, LEN_28, LEN_40, LEN_46, LEN_59, LEN_106]
  rw [wrap64 (by omega) (by omega), show (l.length : Int) + 80 = ((l.length + 80 : Nat) : Int) by omega]
  refine xE_make EL_28 (l := l.length + 80) (by omega) (by unfold maxLen; omega) fun w1 hb1 hk1 hz1 => ?_
  refine xE_copy (enc := encB) SL_28 SZ_5 hb1 (by rw [List.length_replicate]; omega) (hv.kept0 hk1) encB_len encB_one (by omega) fun w2 hb2 hk2 hz2 => ?_
  have hk12 : Kept [] w w2 := hk1.then hk2 (by simp)
  have hb2' : Blk w2 w.heap.size 5 ((l ++ List.replicate 0 m).flatMap encB ++ List.replicate 80 (.int .u8 0)) := by
    have hb2' := hb2
    have e0 : ((Value.int .u8 0).cells[0]'(by decide)) = Value.int .u8 0 := rfl
    rw [List.take_zero, List.nil_append, List.drop_replicate, Nat.zero_add, Nat.add_sub_cancel_left, e0] at hb2'
    rw [List.replicate_zero, List.append_nil]
    exact hb2'
  try simp only [xP_nil, xP_pick, xP_func, xP_not, xP_add, xP_sub, xP_mul, xP_lss, xP_leq, xP_gtr, xP_geq, xP_max2, xP_min2, xR_eql, xR_neq, Nat.zero_add, Nat.add_zero, Nat.reduceAdd, List.getD_cons_zero, List.getD_cons_succ, xIf_true, xIf_false, FA_44_0, FA_44_1, FA_44_2, FA_44_3, FA_44_4, FA_44_5, FA_63_0, FA_63_1, FA_63_2, FA_63_3, FA_71_0, FA_71_1, FA_71_2, FA_71_3, FA_81_2, LEN_28, LEN_40, LEN_46, LEN_59, LEN_106]
  refine xLoop_of (fun vs w' => ∃ i : Nat, vs = [.int .i64 ((l.length + i : Nat) : Int)] ∧ i ≤ 80 ∧ Blk w' w.heap.size 5 ((l ++ List.replicate i m).flatMap encB ++ List.replicate (80 - i) (.int .u8 0)) ∧ Kept [] w w')
    (fun vs _ => match vs with | [.int _ i] => (l.length + 80) - i.toNat | _ => 0) ⟨0, rfl, by omega, hb2', hk12⟩ ?_
  rintro _ _ w3 ⟨i, rfl, hi, hb3, hk3⟩
  simp only [xP_nil, xP_pick, xP_func, xP_not, xP_add, xP_sub, xP_mul, xP_lss, xP_leq, xP_gtr, xP_geq, xP_max2, xP_min2, xR_eql, xR_neq, Nat.zero_add, Nat.add_zero, Nat.reduceAdd, List.getD_cons_zero, List.getD_cons_succ, xIf_true, xIf_false, FA_44_0, FA_44_1, FA_44_2, FA_44_3, FA_44_4, FA_44_5, FA_63_0, FA_63_1, FA_63_2, FA_63_3, FA_71_0, FA_71_1, FA_71_2, FA_71_3, FA_81_2, LEN_28, LEN_40, LEN_46, LEN_59, LEN_106, xIf_dec]
  have hlen : ((l ++ List.replicate i m).flatMap encB).length = l.length + i := by rw [flat_len encB_len, List.length_append, List.length_replicate]; omega
  refine ⟨fun hlt => ?_, fun hge => ?_⟩
  · have hlt' : l.length + i < l.length + 80 := by omega
    refine (xP_IAn SL_28 SZ_5 hlt').2 ?_
    simp only [xP_nil, xP_pick, xP_func, xP_not, xP_add, xP_sub, xP_mul, xP_lss, xP_leq, xP_gtr, xP_geq, xP_max2, xP_min2, xR_eql, xR_neq, Nat.zero_add, Nat.add_zero, Nat.reduceAdd, List.getD_cons_zero, List.getD_cons_succ, xIf_true, xIf_false, FA_44_0, FA_44_1, FA_44_2, FA_44_3, FA_44_4, FA_44_5, FA_63_0, FA_63_1, FA_63_2, FA_63_3, FA_71_0, FA_71_1, FA_71_2, FA_71_3, FA_81_2, LEN_28, LEN_40, LEN_46, LEN_59, LEN_106, Nat.mul_one]
    refine xE_store1 SZ_5 hb3 (by rw [List.length_append, hlen, List.length_replicate]; omega) rfl fun w4 hb4 hk4 hz4 => ?_
    rw [wrap64 (by omega) (by omega)]
    refine ⟨⟨i + 1, by rw [show ((l.length + i : Nat) : Int) + 1 = ((l.length + (i + 1) : Nat) : Int) by omega], by omega, ?_, hk3.then hk4 (by simp)⟩, by omega⟩
    have e3 : 80 - i = (80 - (i + 1)) + 1 := by omega
    rw [e3, set_row hlen] at hb4
    have : (l ++ List.replicate (i + 1) m).flatMap encB = (l ++ List.replicate i m).flatMap encB ++ [.int .u8 m.toNat] := by
      rw [List.replicate_succ', ← List.append_assoc, List.flatMap_append]; rfl
    rw [this]
    exact hb4
  · obtain rfl : i = 80 := by omega
    rw [Nat.sub_self, List.replicate_zero, List.append_nil] at hb3
    exact ⟨w.heap.size, rfl, hb3, Nat.le_refl _, hk3⟩
theorem intactB_ok {full was : List UInt8} {m : UInt8} {a b : Value} {w : World} (ha : SlT w encB a full) (hb : SlT w encB b was) (hl : was.length ≤ 1000000000) (h : full = was ++ List.replicate 80 m) :
    Gives Tryd.prog 26 #[a, b, .int .u8 m.toNat] w fun u w' => u = .bool true ∧ Kept [] w w' := by
  refine C_stavebook_Intact_byte ?_
  unfold S_stavebook_Intact_byte
  have hfl : full.length = was.length + 80 := by rw [h, List.length_append, List.length_replicate]
  obtain ⟨aa, ac, rfl, hac, har⟩ := ha
  have ha : SlT w encB (.slice aa full.length ac) full := ⟨aa, ac, rfl, hac, har⟩
  obtain ⟨ba, bc, rfl, hbc, hbr⟩ := hb
  have hb : SlT w encB (.slice ba was.length bc) was := ⟨ba, bc, rfl, hbc, hbr⟩
  refine xJoin_one ?_
  try simp only [xP_nil, xP_pick, xP_func, xP_not, xP_add, xP_sub, xP_mul, xP_lss, xP_leq, xP_gtr, xP_geq, xP_max2, xP_min2, xR_eql, xR_neq, Nat.zero_add, Nat.add_zero, Nat.reduceAdd, List.getD_cons_zero, List.getD_cons_succ, xIf_true, xIf_false, FA_44_0, FA_44_1, FA_44_2, FA_44_3, FA_44_4, FA_44_5, FA_63_0, FA_63_1, FA_63_2, FA_63_3, FA_71_0, FA_71_1, FA_71_2, FA_71_3, FA_81_2, LEN_28, LEN_40, LEN_46, LEN_59, LEN_106]
  rw [wrap64 (by omega) (by omega), decide_eq_false (show ¬ ((full.length : Int) ≠ (was.length : Int) + 80) by omega)]
  try simp only [xP_nil, xP_pick, xP_func, xP_not, xP_add, xP_sub, xP_mul, xP_lss, xP_leq, xP_gtr, xP_geq, xP_max2, xP_min2, xR_eql, xR_neq, Nat.zero_add, Nat.add_zero, Nat.reduceAdd, List.getD_cons_zero, List.getD_cons_succ, xIf_true, xIf_false, FA_44_0, FA_44_1, FA_44_2, FA_44_3, FA_44_4, FA_44_5, FA_63_0, FA_63_1, FA_63_2, FA_63_3, FA_71_0, FA_71_1, FA_71_2, FA_71_3, FA_81_2, LEN_28, LEN_40, LEN_46, LEN_59, LEN_106]
  refine (xP_upto SL_28 SZ_5 (by omega) (by omega)).2 ?_
  rw [Int.toNat_natCast]
  refine xE_call CF_16 (sameB_ok (SlT.upto encB_len ha (by omega)) hb (by rw [List.length_take]; omega)) ?_
  rintro _ w1 ⟨rfl, hk1⟩
  have e1 : full.take was.length = was := by rw [h, List.take_left]
  rw [e1]
  simp only [decide_true, xP_nil, xP_pick, xP_func, xP_not, xP_add, xP_sub, xP_mul, xP_lss, xP_leq, xP_gtr, xP_geq, xP_max2, xP_min2, xR_eql, xR_neq, Nat.zero_add, Nat.add_zero, Nat.reduceAdd, List.getD_cons_zero, List.getD_cons_succ, xIf_true, xIf_false, FA_44_0, FA_44_1, FA_44_2, FA_44_3, FA_44_4, FA_44_5, FA_63_0, FA_63_1, FA_63_2, FA_63_3, FA_71_0, FA_71_1, FA_71_2, FA_71_3, FA_81_2, LEN_28, LEN_40, LEN_46, LEN_59, LEN_106, Bool.not_true]
  intro _
  try simp only [xP_nil, xP_pick, xP_func, xP_not, xP_add, xP_sub, xP_mul, xP_lss, xP_leq, xP_gtr, xP_geq, xP_max2, xP_min2, xR_eql, xR_neq, Nat.zero_add, Nat.add_zero, Nat.reduceAdd, List.getD_cons_zero, List.getD_cons_succ, xIf_true, xIf_false, FA_44_0, FA_44_1, FA_44_2, FA_44_3, FA_44_4, FA_44_5, FA_63_0, FA_63_1, FA_63_2, FA_63_3, FA_71_0, FA_71_1, FA_71_2, FA_71_3, FA_81_2, LEN_28, LEN_40, LEN_46, LEN_59, LEN_106]
  refine xLoop_of (fun vs w' => ∃ i : Nat, vs = [.int .i64 ((was.length + i : Nat) : Int)] ∧ i ≤ 80 ∧ w1 = w') (fun vs _ => match vs with | [.int _ i] => (was.length + 80) - i.toNat | _ => 0) ⟨0, rfl, by omega, rfl⟩ ?_
  rintro _ _ _ ⟨i, rfl, hi, rfl⟩
  simp only [xP_nil, xP_pick, xP_func, xP_not, xP_add, xP_sub, xP_mul, xP_lss, xP_leq, xP_gtr, xP_geq, xP_max2, xP_min2, xR_eql, xR_neq, Nat.zero_add, Nat.add_zero, Nat.reduceAdd, List.getD_cons_zero, List.getD_cons_succ, xIf_true, xIf_false, FA_44_0, FA_44_1, FA_44_2, FA_44_3, FA_44_4, FA_44_5, FA_63_0, FA_63_1, FA_63_2, FA_63_3, FA_71_0, FA_71_1, FA_71_2, FA_71_3, FA_81_2, LEN_28, LEN_40, LEN_46, LEN_59, LEN_106, xIf_dec]
  refine ⟨fun hlt => ?_, fun hge => ⟨rfl, hk1⟩⟩
  have hlt' : was.length + i < full.length := by omega
  refine (rowB.get ha hk1 hlt').2 ?_
  have e2 : full[was.length + i] = m := by
    subst h
    rw [List.getElem_append_right (by omega)]
    exact List.getElem_replicate ..
  rw [e2]
  simp only [xP_nil, xP_pick, xP_func, xP_not, xP_add, xP_sub, xP_mul, xP_lss, xP_leq, xP_gtr, xP_geq, xP_max2, xP_min2, xR_eql, xR_neq, Nat.zero_add, Nat.add_zero, Nat.reduceAdd, List.getD_cons_zero, List.getD_cons_succ, xIf_true, xIf_false, FA_44_0, FA_44_1, FA_44_2, FA_44_3, FA_44_4, FA_44_5, FA_63_0, FA_63_1, FA_63_2, FA_63_3, FA_71_0, FA_71_1, FA_71_2, FA_71_3, FA_81_2, LEN_28, LEN_40, LEN_46, LEN_59, LEN_106, ne_eq, not_true_eq_false, decide_false]
  rw [wrap64 (by omega) (by omega)]
  exact ⟨⟨i + 1, by rw [show ((was.length + i : Nat) : Int) + 1 = ((was.length + (i + 1) : Nat) : Int) by omega], by omega, trivial⟩, by omega⟩
end Go.Proofs.YthmjjdfjegjfeaaDoor
