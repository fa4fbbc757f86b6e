import Derived.Test.YtbfaglbfpmnnmaaDoorXdReply7D
import Derived.Test.YtbfaglbfpmnnmaaDoorXdGramR3
import Derived.Test.YtbfaglbfpmnnmaaDoorXB
namespace Go.Proofs.YtbfaglbfpmnnmaaDoor
set_option linter.unusedSimpArgs false
set_option linter.unusedVariables false
set_option maxRecDepth 100000
attribute [local irreducible] Go.X.xE
open Go Go.X Go.RowKit

/-! ## The document's own replies -/
theorem dnumf_ok {size hi : Int} {w : World} : Gives Tryd.prog 63 #[.int .i64 size, .int .i64 hi] w fun u w' => u = vF ⟨1, size, 0, hi, 0⟩ ∧ Kept [] w w' := by
  refine C_staveref19_num ?_
  unfold S_staveref19_num
  refine xE_alloc Z_123 fun w1 hb1 hk1 hz1 => ?_
  refine (xP_build (cells := (encF ⟨1, size, 0, hi, 0⟩).toArray) (by kernel_rfl)).2 ?_
  refine xE_storeN (l1 := []) (l2 := encF ⟨0, 0, 0, 0, 0⟩) (l3 := []) SZ_123 hb1 rfl rfl rfl (encF_cells _) fun w2 hb2 hk2 hz2 => ?_
  obtain ⟨L0, L1, L2, L3, L4, L5⟩ := ldF (f := ⟨1, size, 0, hi, 0⟩) (by simpa [Value.cells] using hb2)
  simp only [L5]
  exact ⟨rfl, hk1.trans hk2 (by simp) (by simp)⟩
theorem doffset_ok {w : World} : Gives Tryd.prog 64 #[] w fun u w' => u = vF ⟨1, 8, 0, 9223372036854775807, 0⟩ ∧ Kept [] w w' := by
  refine C_staveref19_offset ?_
  unfold S_staveref19_offset
  refine xE_alloc Z_123 fun w1 hb1 hk1 hz1 => ?_
  refine xE_call CF_63 dnumf_ok ?_
  rintro _ w2 ⟨rfl, hk2⟩
  refine xE_storeN (l1 := []) (l2 := encF ⟨0, 0, 0, 0, 0⟩) (l3 := []) SZ_123 (hb1.kept hk2 (by simp)) rfl rfl rfl (encF_cells _) fun w3 hb3 hk3 hz3 => ?_
  obtain ⟨L0, L1, L2, L3, L4, L5⟩ := ldF (f := ⟨1, 8, 0, 9223372036854775807, 0⟩) (by simpa [Value.cells, vF] using hb3)
  simp only [L5]
  exact ⟨rfl, (hk1.then hk2 (by simp)).then hk3 (by simp)⟩
theorem dfields_ok {w : World} : Gives Tryd.prog 40 #[] w fun u w' => SlT w' encF u rpFields ∧ Kept [] w w' := by
  refine C_staveref19_replyFields ?_
  unfold S_staveref19_replyFields
  refine xE_call CF_63 dnumf_ok ?_
  rintro _ w1 ⟨rfl, hk1⟩
  refine xE_call CF_63 dnumf_ok ?_
  rintro _ w2 ⟨rfl, hk2⟩
  refine xE_call CF_64 doffset_ok ?_
  rintro _ w3 ⟨rfl, hk3⟩
  refine xE_call CF_64 doffset_ok ?_
  rintro _ w4 ⟨rfl, hk4⟩
  refine (xP_build (cells := (encF ⟨3, 0, 0, 8, 24⟩).toArray) (by kernel_rfl)).2 ?_
  refine (xP_build (cells := (encF ⟨3, 0, 0, 4, 608⟩).toArray) (by kernel_rfl)).2 ?_
  refine xE_buildSlice EL_86 (rpFields.map vF) rfl rfl (by simp [rpFields, vF, encF, Value.cells]) (by omega) (by omega) fun w5 hb5 hk5 hz5 => ?_
  exact ⟨⟨_, _, rfl, by simp [rpFields], .inr ⟨_, _, rfl, hb5.at⟩⟩, (((hk1.then hk2 (by simp)).then hk3 (by simp)).then hk4 (by simp)).then hk5 (by simp)⟩

theorem dvals_ok {x : RawRp} {r : Rp} {w : World} (h : IsRp w x r) (hr : okRp r) : Gives Tryd.prog 41 #[vR x] w fun u w' =>
    ∃ raws : List RawV, SlT w' encV u raws ∧ raws.length = r.vals.length ∧ (∀ (i : Nat) a b, raws[i]? = some a → r.vals[i]? = some b → IsV w' a b) ∧ Kept [] w w' := by
  obtain ⟨hn, hbl, hbs⟩ := hr
  refine C_staveref19_replyValues ?_
  unfold S_staveref19_replyValues
  refine xE_box fun w1 hb1 hk1 hz1 => ?_
  have hb1' : Blk w1 w.heap.size 56 (encR x) := hb1
  generalize eB : w.heap.size = B at *
  obtain ⟨L0, L1, L2, L3, L4, L5, L6⟩ := ldR hb1'
  obtain ⟨ba, bc, hbv, hbc, hbr⟩ := h.batches
  have hbat : SlT w1 encT x.bv r.batches := h.batches.kept0 hk1
  simp only [xP_nil, xP_pick, xP_func, xP_not, xP_add, xP_sub, xP_mul, xP_lss, xP_leq, xP_gtr, xP_geq, xP_max2, xP_min2, xR_eql, xR_neq, Nat.zero_add, Nat.add_zero, Nat.reduceAdd, List.getD_cons_zero, List.getD_cons_succ, xIf_true, xIf_false, FA_25_0, FA_39_0, FA_41_0, FA_41_1, FA_41_2, FA_56_0, FA_56_1, FA_56_2, FA_56_3, FA_56_4, FA_56_5, FA_72_0, FA_79_0, FA_79_1, FA_93_0, FA_93_1, FA_93_2, FA_102_2, FA_123_0, FA_123_1, FA_123_2, FA_123_3, FA_123_4, FA_131_0, FA_131_1, FA_131_2, LEN_35, LEN_45, LEN_49, LEN_53, LEN_54, LEN_57, LEN_86, LEN_88, LEN_147, L5]
  rw [hbv]
  simp only [xP_nil, xP_pick, xP_func, xP_not, xP_add, xP_sub, xP_mul, xP_lss, xP_leq, xP_gtr, xP_geq, xP_max2, xP_min2, xR_eql, xR_neq, Nat.zero_add, Nat.add_zero, Nat.reduceAdd, List.getD_cons_zero, List.getD_cons_succ, xIf_true, xIf_false, FA_25_0, FA_39_0, FA_41_0, FA_41_1, FA_41_2, FA_56_0, FA_56_1, FA_56_2, FA_56_3, FA_56_4, FA_56_5, FA_72_0, FA_79_0, FA_79_1, FA_93_0, FA_93_1, FA_93_2, FA_102_2, FA_123_0, FA_123_1, FA_123_2, FA_123_3, FA_123_4, FA_131_0, FA_131_1, FA_131_2, LEN_35, LEN_45, LEN_49, LEN_53, LEN_54, LEN_57, LEN_86, LEN_88, LEN_147]
  rw [hbv] at hbat
  refine xLoop_of (fun vs w' => ∃ (i : Nat) (o : Value) (F : List Nat), vs = [o, .int .i64 i] ∧ i ≤ r.batches.length ∧ Own w' 9 1 o i (((r.batches.take i).map textT).flatMap encS) F ∧ (∀ g ∈ F, B + 1 ≤ g) ∧ Blk w' B 56 (encR x) ∧ Kept [] w w' ∧ Kept [] w1 w')
    (fun vs _ => match vs with | [_, .int _ i] => r.batches.length - i.toNat | _ => 0) ⟨0, .slice none 0 0, [], rfl, by omega, own_nil _ _ _, by simp, hb1', hk1, Kept.refl _ _⟩ ?_
  rintro _ _ w2 ⟨i, o, F, rfl, hi, ho, hF, hb2, hk2, hk12⟩
  simp only [xP_nil, xP_pick, xP_func, xP_not, xP_add, xP_sub, xP_mul, xP_lss, xP_leq, xP_gtr, xP_geq, xP_max2, xP_min2, xR_eql, xR_neq, Nat.zero_add, Nat.add_zero, Nat.reduceAdd, List.getD_cons_zero, List.getD_cons_succ, xIf_true, xIf_false, FA_25_0, FA_39_0, FA_41_0, FA_41_1, FA_41_2, FA_56_0, FA_56_1, FA_56_2, FA_56_3, FA_56_4, FA_56_5, FA_72_0, FA_79_0, FA_79_1, FA_93_0, FA_93_1, FA_93_2, FA_102_2, FA_123_0, FA_123_1, FA_123_2, FA_123_3, FA_123_4, FA_131_0, FA_131_1, FA_131_2, LEN_35, LEN_45, LEN_49, LEN_53, LEN_54, LEN_57, LEN_86, LEN_88, LEN_147, xIf_dec]
  have hz2 := hk12.size
  refine ⟨fun hlt => ?_, fun hge => ?_⟩
  · have hlt' : i < r.batches.length := by omega
    refine (rowT.get hbat hk12 hlt').2 ?_
    refine xE_alloc Z_79 fun w3 hb3 hk3 hz3 => ?_
    refine xE_storeN (l1 := []) (l2 := encT (0, strEmpty)) (l3 := []) SZ_79 hb3 rfl rfl rfl (encT_one _) fun w4 hb4 hk4 hz4 => ?_
    have hb4' : Blk w4 w2.heap.size 79 (encT r.batches[i]) := by simpa [Value.cells, vT] using hb4
    have hk24 : Kept [] w2 w4 := hk3.trans hk4 (by simp) (by simp)
    have hps := hbs _ (List.getElem_mem hlt')
    have htx : textT r.batches[i] = mkS (lowB r.batches[i].1 8) ++ r.batches[i].2 := rfl
    generalize hpr : r.batches[i] = pr at *
    obtain ⟨M0, M1, M2⟩ := ldT (blk_drew hb4')
    simp only [xP_nil, xP_pick, xP_func, xP_not, xP_add, xP_sub, xP_mul, xP_lss, xP_leq, xP_gtr, xP_geq, xP_max2, xP_min2, xR_eql, xR_neq, Nat.zero_add, Nat.add_zero, Nat.reduceAdd, List.getD_cons_zero, List.getD_cons_succ, xIf_true, xIf_false, FA_25_0, FA_39_0, FA_41_0, FA_41_1, FA_41_2, FA_56_0, FA_56_1, FA_56_2, FA_56_3, FA_56_4, FA_56_5, FA_72_0, FA_79_0, FA_79_1, FA_93_0, FA_93_1, FA_93_2, FA_102_2, FA_123_0, FA_123_1, FA_123_2, FA_123_3, FA_123_4, FA_131_0, FA_131_1, FA_131_2, LEN_35, LEN_45, LEN_49, LEN_53, LEN_54, LEN_57, LEN_86, LEN_88, LEN_147, M0]
    obtain ⟨nn, hnn, hlow⟩ := wrapU_nat pr.1
    refine (xP_conv INT_3 INT_97).2 ?_
    rw [hnn]
    try simp only [xP_nil, xP_pick, xP_func, xP_not, xP_add, xP_sub, xP_mul, xP_lss, xP_leq, xP_gtr, xP_geq, xP_max2, xP_min2, xR_eql, xR_neq, Nat.zero_add, Nat.add_zero, Nat.reduceAdd, List.getD_cons_zero, List.getD_cons_succ, xIf_true, xIf_false, FA_25_0, FA_39_0, FA_41_0, FA_41_1, FA_41_2, FA_56_0, FA_56_1, FA_56_2, FA_56_3, FA_56_4, FA_56_5, FA_72_0, FA_79_0, FA_79_1, FA_93_0, FA_93_1, FA_93_2, FA_102_2, FA_123_0, FA_123_1, FA_123_2, FA_123_3, FA_123_4, FA_131_0, FA_131_1, FA_131_2, LEN_35, LEN_45, LEN_49, LEN_53, LEN_54, LEN_57, LEN_86, LEN_88, LEN_147, M1]
    refine xE_call CF_61 (dnum_ok (k := 8) (SlT.nil_ _ _) (by simp) (by omega)) ?_
    rintro u5 w5 hfr5
    rw [hlow, List.nil_append] at hfr5
    have hk45 : Kept [] w4 w5 := (kept_drew [] w4).then hfr5.keptI (by simp)
    refine (still1 ONE_9 (v := .string pr.2) ((hb4'.kept hk45 (by simp)).cell (o := 1))).2 ?_
    refine (xE_toStr BYT STR hfr5.slT).2 ?_
    refine (still1 ONE_9 (v := .string pr.2) ((hb4'.kept hk45 (by simp)).cell (o := 1))).2 ?_
    have hsz8 : (ByteArray.mk (lowB pr.1 8).toArray).size = 8 := by rw [size_mk, lowB_len]
    refine (xP_addS (by rw [hsz8]; omega)).2 ?_
    have htx' : ByteArray.mk (lowB pr.1 8).toArray ++ pr.2 = textT pr := rfl
    rw [htx']
    refine xE_buildSlice EL_53 [.string (textT pr)] rfl rfl (by simp [Value.cells]) (by omega) (by omega) fun w6 hb6 hk6 hz6 => ?_
    have hk26 : Kept [] w2 w6 := (hk24.then hk45 (by simp)).then hk6 (by simp)
    have hz26 := hk26.size
    have hat : At w6 w5.heap.size 0 ([textT pr].flatMap encS) := hb6.at
    refine xE_append (m := 1) EL_53 (ho.kept hk26 (by simp)) hat rfl (by simp [encS]; rfl) (by omega) (by unfold maxLen; omega) (by omega) fun o' w7 F' ho' hk7 hF' _ => ?_
    rw [wrap64 (by omega) (by omega)]
    refine ⟨⟨i + 1, o', F', rfl, hlt', ?_, fun g hg => (hF' g hg).elim (hF g) (fun h => by omega), (hb2.kept hk26 (by simp)).kept hk7 (fun hm => by have := hF _ hm; omega), (hk2.then hk26 (by simp)).then hk7 (fun g hg => .inr (by have := hF g hg; omega)), (hk12.then hk26 (by simp)).then hk7 (fun g hg => .inr (by have := hF g hg; omega))⟩, by omega⟩
    rw [List.take_succ_eq_append_getElem hlt', List.map_append, List.flatMap_append, hpr]
    exact ho'
  · obtain rfl : i = r.batches.length := by omega
    rw [List.take_length] at ho
    obtain ⟨N0, N1, N2, N3, N4, N5, N6⟩ := ldR hb2
    simp only [N0, N1, N2, N3, N4]
    refine (xP_build (cells := #[.int .i64 x.corr, .string strEmpty, .slice none 0 0]) (by kernel_rfl)).2 ?_
    refine (xP_build (cells := #[.int .i64 x.err, .string strEmpty, .slice none 0 0]) (by kernel_rfl)).2 ?_
    refine (xP_build (cells := #[.int .i64 x.base, .string strEmpty, .slice none 0 0]) (by kernel_rfl)).2 ?_
    refine (xP_build (cells := #[.int .i64 x.next, .string strEmpty, .slice none 0 0]) (by kernel_rfl)).2 ?_
    refine (xP_build (cells := #[.int .i64 0, .string strEmpty, x.nv]) (by obtain ⟨a, c, e, _⟩ := h.names; rw [e]; exact buildL)).2 ?_
    refine (xP_build (cells := #[.int .i64 0, .string strEmpty, o]) (by obtain ⟨_, _, e, _⟩ := ho.slice; rw [e]; exact buildL)).2 ?_
    have howns : SlT w2 encS o (r.batches.map textT) := by
      have := ho
      rw [show r.batches.length = (r.batches.map textT).length by simp] at this
      exact this.slT encS_len (by omega)
    obtain ⟨raws, eraws⟩ : ∃ raws : List RawV, raws = [⟨x.corr, strEmpty, .slice none 0 0⟩, ⟨x.err, strEmpty, .slice none 0 0⟩, ⟨x.base, strEmpty, .slice none 0 0⟩, ⟨x.next, strEmpty, .slice none 0 0⟩, ⟨0, strEmpty, x.nv⟩, ⟨0, strEmpty, o⟩] := ⟨_, rfl⟩
    have hraw : [Value.agg #[.int .i64 x.corr, .string strEmpty, .slice none 0 0], .agg #[.int .i64 x.err, .string strEmpty, .slice none 0 0], .agg #[.int .i64 x.base, .string strEmpty, .slice none 0 0], .agg #[.int .i64 x.next, .string strEmpty, .slice none 0 0], .agg #[.int .i64 0, .string strEmpty, x.nv], .agg #[.int .i64 0, .string strEmpty, o]] = raws.map vV := by rw [eraws]; rfl
    have hcells : (raws.map vV).flatMap (fun v => v.cells.toList) = raws.flatMap encV := by rw [List.flatMap_map]; rfl
    have hlen6 : raws.length = 6 := by rw [eraws]; rfl
    have hsz : ∀ v ∈ raws.map vV, v.cells.size = 3 := by
      intro v hv
      obtain ⟨y, -, rfl⟩ := List.mem_map.1 hv
      rfl
    refine xE_buildSlice EL_88 (raws.map vV) (by rw [← hraw]; rfl) (by simp [hlen6]) hsz (by omega) (by omega) fun w4 hb4 hk4 hz4 => ?_
    rw [hcells] at hb4
    refine ⟨raws, ⟨_, _, by rw [hlen6], by rw [hlen6]; exact Nat.le_refl _, .inr ⟨_, _, rfl, hb4.at⟩⟩, by rw [hlen6]; rfl, ?_, hk2.then hk4 (by simp)⟩
    intro i a b ha hb
    have hnv : SlT w4 encS x.nv r.names := (h.names.kept0 hk2).kept0 hk4
    have hov : SlT w4 encS o (r.batches.map textT) := howns.kept0 hk4
    have hnil : SlT w4 encS (.slice none 0 0) ([] : List ByteArray) := SlT.nil_ _ _
    rw [eraws] at ha
    unfold Rp.vals at hb
    rcases i with _ | _ | _ | _ | _ | _ | i
    · simp at ha hb; subst ha; subst hb; exact ⟨h.corr, rfl, hnil⟩
    · simp at ha hb; subst ha; subst hb; exact ⟨h.err, rfl, hnil⟩
    · simp at ha hb; subst ha; subst hb; exact ⟨h.base, rfl, hnil⟩
    · simp at ha hb; subst ha; subst hb; exact ⟨h.next, rfl, hnil⟩
    · simp at ha hb; subst ha; subst hb; exact ⟨rfl, rfl, hnv⟩
    · simp at ha hb; subst ha; subst hb; exact ⟨rfl, rfl, hov⟩
    · simp at ha
end Go.Proofs.YtbfaglbfpmnnmaaDoor
