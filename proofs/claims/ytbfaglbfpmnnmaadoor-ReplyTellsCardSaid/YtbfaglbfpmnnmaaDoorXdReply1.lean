import Derived.Test.YtbfaglbfpmnnmaaDoorXdGram8
import Derived.Test.YtbfaglbfpmnnmaaDoorXB
namespace Go.Proofs.YtbfaglbfpmnnmaaDoor
set_option linter.unusedSimpArgs false
set_option linter.unusedVariables false
set_option maxRecDepth 100000
attribute [local irreducible] Go.X.xE
open Go Go.X

theorem ldT {w : World} {b : Nat} {p : Int × ByteArray} (h : Blk w b 79 (encT p)) :
    (∀ K, xR Tryd.prog (sLoad 3 (.pointer (some ⟨b, 0, none⟩))) w K ↔ K (.int .i64 p.1)) ∧ (∀ K, xR Tryd.prog (sLoad 9 (.pointer (some ⟨b, 1, none⟩))) w K ↔ K (.string p.2)) ∧ (∀ K, xR Tryd.prog (sLoad 79 (.pointer (some ⟨b, 0, none⟩))) w K ↔ K (vT p)) :=
  ⟨fun _ => ld1 ONE_3 (h.cell (o := 0)), fun _ => ld1 ONE_9 (h.cell (o := 1)), fun _ => ldN (l := encT p) AGG_79 h.at⟩
theorem rowT : RowB Tryd.prog 54 79 2 encT vT := RowB.agg SL_54 SZ_79 encT_len AGG_79
theorem ldR {w : World} {b : Nat} {x : RawRp} (h : Blk w b 56 (encR x)) :
    (∀ K, xR Tryd.prog (sLoad 3 (.pointer (some ⟨b, 0, none⟩))) w K ↔ K (.int .i64 x.corr)) ∧ (∀ K, xR Tryd.prog (sLoad 31 (.pointer (some ⟨b, 1, none⟩))) w K ↔ K (.int .i64 x.err)) ∧
    (∀ K, xR Tryd.prog (sLoad 3 (.pointer (some ⟨b, 2, none⟩))) w K ↔ K (.int .i64 x.base)) ∧ (∀ K, xR Tryd.prog (sLoad 3 (.pointer (some ⟨b, 3, none⟩))) w K ↔ K (.int .i64 x.next)) ∧
    (∀ K, xR Tryd.prog (sLoad 53 (.pointer (some ⟨b, 4, none⟩))) w K ↔ K x.nv) ∧ (∀ K, xR Tryd.prog (sLoad 54 (.pointer (some ⟨b, 5, none⟩))) w K ↔ K x.bv) ∧ (∀ K, xR Tryd.prog (sLoad 56 (.pointer (some ⟨b, 0, none⟩))) w K ↔ K (vR x)) :=
  ⟨fun _ => ld1 ONE_3 (h.cell (o := 0)), fun _ => ld1 ONE_31 (h.cell (o := 1)), fun _ => ld1 ONE_3 (h.cell (o := 2)), fun _ => ld1 ONE_3 (h.cell (o := 3)), fun _ => ld1 ONE_53 (h.cell (o := 4)), fun _ => ld1 ONE_54 (h.cell (o := 5)), fun _ => ldN (l := encR x) AGG_56 h.at⟩

theorem fields_ok {w : World} : Gives Tryd.prog 43 #[] w fun u w' => SlT w' encF u rpFields ∧ Kept [] w w' := by
  refine C_reply_fields ?_
  unfold S_reply_fields
  refine (xP_build (cells := #[.int .i64 1, .int .i64 4, .int .i64 0, .int .i64 4294967295, .int .i64 0]) (by kernel_rfl)).2 ?_
  refine (xP_build (cells := #[.int .i64 1, .int .i64 1, .int .i64 0, .int .i64 255, .int .i64 0]) (by kernel_rfl)).2 ?_
  refine (xP_build (cells := #[.int .i64 1, .int .i64 8, .int .i64 0, .int .i64 9223372036854775807, .int .i64 0]) (by kernel_rfl)).2 ?_
  refine (xP_build (cells := #[.int .i64 1, .int .i64 8, .int .i64 0, .int .i64 9223372036854775807, .int .i64 0]) (by kernel_rfl)).2 ?_
  refine (xP_build (cells := #[.int .i64 3, .int .i64 0, .int .i64 0, .int .i64 8, .int .i64 24]) (by kernel_rfl)).2 ?_
  refine (xP_build (cells := #[.int .i64 3, .int .i64 0, .int .i64 0, .int .i64 4, .int .i64 608]) (by kernel_rfl)).2 ?_
  refine xE_buildSlice EL_86 (rpFields.map vF) rfl rfl (by simp [rpFields, vF, encF, Value.cells]) (by omega) (by omega) fun w1 hb1 hk1 hz1 => ?_
  exact ⟨⟨_, _, rfl, by simp [rpFields], .inr ⟨_, _, rfl, hb1.at⟩⟩, hk1⟩

theorem text8_ok {p : Int × ByteArray} {w : World} (hs : p.2.size ≤ 9223372036854775799) : Gives Tryd.prog 56 #[vT p] w fun u w' => u = .string (textT p) ∧ Kept [] w w' := by
  refine C_reply_text ?_
  unfold S_reply_text
  refine xE_box fun w0 hb0 hk0 hz0 => ?_
  refine xE_make EL_57 (l := 8) (by omega) (by unfold maxLen; omega) fun w1 hb1 hk1 hz1 => ?_
  have hb0' : Blk w1 w.heap.size 79 (encT p) := hb0.kept hk1 (by simp)
  simp only [xP_nil, xP_pick, xP_func, xP_not, xP_add, xP_sub, xP_mul, xP_lss, xP_leq, xP_gtr, xP_geq, xP_max2, xP_min2, xR_eql, xR_neq, Nat.zero_add, Nat.add_zero, Nat.reduceAdd, List.getD_cons_zero, List.getD_cons_succ, xIf_true, xIf_false, FA_25_0, FA_39_0, FA_41_0, FA_41_1, FA_41_2, FA_56_0, FA_56_1, FA_56_2, FA_56_3, FA_56_4, FA_56_5, FA_72_0, FA_79_0, FA_79_1, FA_93_0, FA_93_1, FA_93_2, FA_102_2, FA_123_0, FA_123_1, FA_123_2, FA_123_3, FA_123_4, FA_131_0, FA_131_1, FA_131_2, LEN_35, LEN_45, LEN_49, LEN_53, LEN_54, LEN_57, LEN_86, LEN_88, LEN_147]
  generalize eB : w.heap.size = B at *
  refine xLoop_of (fun vs w' => ∃ i : Nat, vs = [.int .i64 i] ∧ i ≤ 8 ∧ Blk w' w0.heap.size 5 ((lowB p.1 i).flatMap encB ++ List.replicate (8 - i) (.int .u8 0)) ∧ Blk w' B 79 (encT p) ∧ Kept [] w w')
    (fun vs _ => match vs with | [.int _ i] => 8 - i.toNat | _ => 0) ⟨0, rfl, by omega, hb1, hb0', hk0.then hk1 (by simp)⟩ ?_
  rintro _ _ w2 ⟨i, rfl, hi, hb2, hp2, hk2⟩
  obtain ⟨L0, L1, L2⟩ := ldT hp2
  simp only [xP_nil, xP_pick, xP_func, xP_not, xP_add, xP_sub, xP_mul, xP_lss, xP_leq, xP_gtr, xP_geq, xP_max2, xP_min2, xR_eql, xR_neq, Nat.zero_add, Nat.add_zero, Nat.reduceAdd, List.getD_cons_zero, List.getD_cons_succ, xIf_true, xIf_false, FA_25_0, FA_39_0, FA_41_0, FA_41_1, FA_41_2, FA_56_0, FA_56_1, FA_56_2, FA_56_3, FA_56_4, FA_56_5, FA_72_0, FA_79_0, FA_79_1, FA_93_0, FA_93_1, FA_93_2, FA_102_2, FA_123_0, FA_123_1, FA_123_2, FA_123_3, FA_123_4, FA_131_0, FA_131_1, FA_131_2, LEN_35, LEN_45, LEN_49, LEN_53, LEN_54, LEN_57, LEN_86, LEN_88, LEN_147, L0, xIf_dec]
  have hl : ((lowB p.1 i).flatMap encB).length = i := by rw [flat_len encB_len, lowB_len, Nat.mul_one]
  refine ⟨fun hlt => ?_, fun hge => ?_⟩
  · have hlt' : i < 8 := by omega
    have h0 : (0 : Int) ≤ 8 * i := by omega
    rw [wrap64 (by omega) (by omega)]
    simp only [xP_conv INT_3 INT_133, wrapU64 h0 (show (8 * (i : Int)) ≤ 18446744073709551615 by omega)]
    refine (xP_shr h0).2 ?_
    have e2 : min (8 * (i : Int)).toNat IntKind.i64.bits = 8 * i := by
      rw [Nat.min_eq_left]
      · omega
      · show _ ≤ 64
        omega
    rw [e2]
    simp only [xP_conv INT_3 INT_5, wrapU8, low_cell]
    refine (xP_IAn SL_57 SZ_5 hlt').2 ?_
    simp only [xP_nil, xP_pick, xP_func, xP_not, xP_add, xP_sub, xP_mul, xP_lss, xP_leq, xP_gtr, xP_geq, xP_max2, xP_min2, xR_eql, xR_neq, Nat.zero_add, Nat.add_zero, Nat.reduceAdd, List.getD_cons_zero, List.getD_cons_succ, xIf_true, xIf_false, FA_25_0, FA_39_0, FA_41_0, FA_41_1, FA_41_2, FA_56_0, FA_56_1, FA_56_2, FA_56_3, FA_56_4, FA_56_5, FA_72_0, FA_79_0, FA_79_1, FA_93_0, FA_93_1, FA_93_2, FA_102_2, FA_123_0, FA_123_1, FA_123_2, FA_123_3, FA_123_4, FA_131_0, FA_131_1, FA_131_2, LEN_35, LEN_45, LEN_49, LEN_53, LEN_54, LEN_57, LEN_86, LEN_88, LEN_147, Nat.mul_one]
    refine xE_store1 SZ_5 hb2 (by rw [List.length_append, hl, List.length_replicate]; omega) rfl fun w3 hb3 hk3 hz3 => ?_
    rw [wrap64 (by omega) (by omega)]
    refine ⟨⟨i + 1, rfl, hlt', ?_, hp2.kept hk3 (by simp; omega), hk2.then hk3 (by simp; omega)⟩, by omega⟩
    have e3 : 8 - i = (8 - (i + 1)) + 1 := by omega
    rw [e3, set_row hl] at hb3
    rw [lowB_succ, List.flatMap_append]
    simpa [encB] using hb3
  · obtain rfl : i = 8 := by omega
    rw [Nat.sub_self, List.replicate_zero, List.append_nil] at hb2
    have hsl : SlT w2 encB (.slice (some ⟨w0.heap.size, 0, none⟩) 8 8) (lowB p.1 8) := ⟨_, 8, by rw [lowB_len], by rw [lowB_len]; omega, .inr ⟨_, _, rfl, hb2.at⟩⟩
    refine (xE_toStr BYT STR hsl).2 ?_
    simp only [xP_nil, xP_pick, xP_func, xP_not, xP_add, xP_sub, xP_mul, xP_lss, xP_leq, xP_gtr, xP_geq, xP_max2, xP_min2, xR_eql, xR_neq, Nat.zero_add, Nat.add_zero, Nat.reduceAdd, List.getD_cons_zero, List.getD_cons_succ, xIf_true, xIf_false, FA_25_0, FA_39_0, FA_41_0, FA_41_1, FA_41_2, FA_56_0, FA_56_1, FA_56_2, FA_56_3, FA_56_4, FA_56_5, FA_72_0, FA_79_0, FA_79_1, FA_93_0, FA_93_1, FA_93_2, FA_102_2, FA_123_0, FA_123_1, FA_123_2, FA_123_3, FA_123_4, FA_131_0, FA_131_1, FA_131_2, LEN_35, LEN_45, LEN_49, LEN_53, LEN_54, LEN_57, LEN_86, LEN_88, LEN_147, L1]
    have e8 : (ByteArray.mk (lowB p.1 8).toArray).size = 8 := by show (lowB p.1 8).toArray.size = 8; rw [List.size_toArray, lowB_len]
    refine (xP_addS (by rw [e8]; omega)).2 ?_
    exact ⟨rfl, hk2⟩

theorem batch8_ok {s : ByteArray} {w : World} (hs : 8 ≤ s.size) (hm : s.size ≤ 9223372036854775807) : Gives Tryd.prog 44 #[.string s] w fun u w' => u = vT (batchT s) ∧ Kept [] w w' := by
  refine C_reply_batch ?_
  unfold S_reply_batch
  refine xE_alloc Z_79 fun w1 hb1 hk1 hz1 => ?_
  refine (xP_fromS STR (by omega) (by omega)).2 ?_
  refine (xP_build (cells := #[.int .i64 0, .string (s.extract 8 s.size)]) (by kernel_rfl)).2 ?_
  refine xE_alloc Z_79 fun w2 hb2 hk2 hz2 => ?_
  refine xE_storeN (l1 := []) (l2 := encT (0, strEmpty)) (l3 := []) SZ_79 hb2 rfl rfl rfl (encT_one (0, s.extract 8 s.size)) fun w3 hb3 hk3 hz3 => ?_
  have hb3' : Blk w3 w1.heap.size 79 (encT (0, s.extract 8 s.size)) := by simpa [Value.cells, encT] using hb3
  have hb1' := (hb1.kept hk2 (by simp)).kept hk3 (by simp; omega)
  have hk03 : Kept [] w w3 := (hk1.then hk2 (by simp)).then hk3 (by simp; omega)
  generalize eB : w.heap.size = B at *
  generalize eB1 : w1.heap.size = B1 at *
  refine xLoop_of (fun vs w' => ∃ i : Nat, vs = [.int .i64 i] ∧ i ≤ 8 ∧ Blk w' B1 79 (encT (IntKind.i64.wrap (leNat ((bytesOf s).take i)), s.extract 8 s.size)) ∧ Blk w' B 79 (encT (0, strEmpty)) ∧ Kept [] w w')
    (fun vs _ => match vs with | [.int _ i] => 8 - i.toNat | _ => 0) ⟨0, rfl, by omega, hb3', hb1', hk03⟩ ?_
  rintro _ _ w4 ⟨i, rfl, hi, hb4, hp4, hk4⟩
  obtain ⟨L0, L1, L2⟩ := ldT (blk_drew hb4)
  simp only [xP_nil, xP_pick, xP_func, xP_not, xP_add, xP_sub, xP_mul, xP_lss, xP_leq, xP_gtr, xP_geq, xP_max2, xP_min2, xR_eql, xR_neq, Nat.zero_add, Nat.add_zero, Nat.reduceAdd, List.getD_cons_zero, List.getD_cons_succ, xIf_true, xIf_false, FA_25_0, FA_39_0, FA_41_0, FA_41_1, FA_41_2, FA_56_0, FA_56_1, FA_56_2, FA_56_3, FA_56_4, FA_56_5, FA_72_0, FA_79_0, FA_79_1, FA_93_0, FA_93_1, FA_93_2, FA_102_2, FA_123_0, FA_123_1, FA_123_2, FA_123_3, FA_123_4, FA_131_0, FA_131_1, FA_131_2, LEN_35, LEN_45, LEN_49, LEN_53, LEN_54, LEN_57, LEN_86, LEN_88, LEN_147, L0, xIf_dec]
  have hlen := bytesOf_len s
  refine ⟨fun hlt => ?_, fun hge => ?_⟩
  · have hlt' : i < 8 := by omega
    have h0 : (0 : Int) ≤ 8 * i := by omega
    refine (xP_idxS STR (by omega)).2 ?_
    rw [wrap64 (by omega) (by omega)]
    simp only [xP_conv INT_5 INT_3, xP_conv INT_3 INT_133, wrapU64 h0 (show (8 * (i : Int)) ≤ 18446744073709551615 by omega)]
    refine (xP_shl h0).2 ?_
    have e2 : min (8 * (i : Int)).toNat IntKind.i64.bits = 8 * i := by
      rw [Nat.min_eq_left]
      · omega
      · show _ ≤ 64
        omega
    rw [e2]
    have hil : i < (bytesOf s).length := by omega
    have hx := ((bytesOf s)[i]).toNat_lt
    have hle8 : leNat ((bytesOf s).take i) < 2 ^ (8 * i) := by
      have := leNat_lt ((bytesOf s).take i)
      rw [List.length_take, Nat.min_eq_left (by omega), show 256 = 2 ^ 8 from rfl, ← Nat.pow_mul] at this
      exact this
    have hp : 2 ^ (8 * i) * 256 ≤ 2 ^ 64 := by
      rw [show 256 = 2 ^ 8 from rfl, ← Nat.pow_add]
      exact Nat.pow_le_pow_right (by omega) (by omega)
    have hp2 : 2 ^ (8 * i) ≤ 2 ^ 56 := Nat.pow_le_pow_right (by omega) (by omega)
    have hxp : ((bytesOf s)[i]).toNat * 2 ^ (8 * i) ≤ 255 * 2 ^ (8 * i) := Nat.mul_le_mul_right _ (by omega)
    have es : (s[i]'(by omega)) = (bytesOf s)[i] := rfl
    rw [es, wrap64 (x := (((bytesOf s)[i]).toNat : Int)) (by omega) (by omega)]
    have e4 : (((bytesOf s)[i].toNat : Nat) : Int) * 2 ^ (8 * i) = (((bytesOf s)[i].toNat * 2 ^ (8 * i) : Nat) : Int) := by
      rw [Int.natCast_mul, Int.natCast_pow]; rfl
    rw [e4, wrap64 (x := ((leNat ((bytesOf s).take i) : Nat) : Int)) (by omega) (by omega)]
    have e5 : leNat ((bytesOf s).take (i + 1)) = leNat ((bytesOf s).take i) + (bytesOf s)[i].toNat * 2 ^ (8 * i) := by
      rw [List.take_succ_eq_append_getElem hil, leNat_snoc, List.length_take, Nat.min_eq_left (by omega), show 256 = 2 ^ 8 from rfl, ← Nat.pow_mul]
    refine (xP_orI hle8 (by omega)).2 ?_
    rw [← e5]
    try simp only [xP_nil, xP_pick, xP_func, xP_not, xP_add, xP_sub, xP_mul, xP_lss, xP_leq, xP_gtr, xP_geq, xP_max2, xP_min2, xR_eql, xR_neq, Nat.zero_add, Nat.add_zero, Nat.reduceAdd, List.getD_cons_zero, List.getD_cons_succ, xIf_true, xIf_false, FA_25_0, FA_39_0, FA_41_0, FA_41_1, FA_41_2, FA_56_0, FA_56_1, FA_56_2, FA_56_3, FA_56_4, FA_56_5, FA_72_0, FA_79_0, FA_79_1, FA_93_0, FA_93_1, FA_93_2, FA_102_2, FA_123_0, FA_123_1, FA_123_2, FA_123_3, FA_123_4, FA_131_0, FA_131_1, FA_131_2, LEN_35, LEN_45, LEN_49, LEN_53, LEN_54, LEN_57, LEN_86, LEN_88, LEN_147]
    refine xE_store1 SZ_3 (blk_drew hb4) (by simp [encT]) rfl fun w5 hb5 hk5 hz5 => ?_
    rw [wrap64 (x := (i : Int) + 1) (by omega) (by omega)]
    refine ⟨⟨i + 1, rfl, hlt', by simpa [encT] using hb5, (blk_drew hp4).kept hk5 (by simp; omega), hk4.drew.then hk5 (by simp; omega)⟩, by omega⟩
  · obtain rfl : i = 8 := by omega
    obtain ⟨M0, M1, M2⟩ := ldT hb4
    simp only [xP_nil, xP_pick, xP_func, xP_not, xP_add, xP_sub, xP_mul, xP_lss, xP_leq, xP_gtr, xP_geq, xP_max2, xP_min2, xR_eql, xR_neq, Nat.zero_add, Nat.add_zero, Nat.reduceAdd, List.getD_cons_zero, List.getD_cons_succ, xIf_true, xIf_false, FA_25_0, FA_39_0, FA_41_0, FA_41_1, FA_41_2, FA_56_0, FA_56_1, FA_56_2, FA_56_3, FA_56_4, FA_56_5, FA_72_0, FA_79_0, FA_79_1, FA_93_0, FA_93_1, FA_93_2, FA_102_2, FA_123_0, FA_123_1, FA_123_2, FA_123_3, FA_123_4, FA_131_0, FA_131_1, FA_131_2, LEN_35, LEN_45, LEN_49, LEN_53, LEN_54, LEN_57, LEN_86, LEN_88, LEN_147, M2]
    refine xE_storeN (l1 := []) (l2 := encT (0, strEmpty)) (l3 := []) SZ_79 hp4 rfl rfl rfl (encT_one _) fun w5 hb5 hk5 hz5 => ?_
    have hb5' : Blk w5 B 79 (encT (batchT s)) := by simpa [Value.cells, vT, batchT] using hb5
    obtain ⟨N0, N1, N2⟩ := ldT hb5'
    simp only [xP_nil, xP_pick, xP_func, xP_not, xP_add, xP_sub, xP_mul, xP_lss, xP_leq, xP_gtr, xP_geq, xP_max2, xP_min2, xR_eql, xR_neq, Nat.zero_add, Nat.add_zero, Nat.reduceAdd, List.getD_cons_zero, List.getD_cons_succ, xIf_true, xIf_false, FA_25_0, FA_39_0, FA_41_0, FA_41_1, FA_41_2, FA_56_0, FA_56_1, FA_56_2, FA_56_3, FA_56_4, FA_56_5, FA_72_0, FA_79_0, FA_79_1, FA_93_0, FA_93_1, FA_93_2, FA_102_2, FA_123_0, FA_123_1, FA_123_2, FA_123_3, FA_123_4, FA_131_0, FA_131_1, FA_131_2, LEN_35, LEN_45, LEN_49, LEN_53, LEN_54, LEN_57, LEN_86, LEN_88, LEN_147, N2]
    exact ⟨rfl, hk4.then hk5 (by simp; omega)⟩
end Go.Proofs.YtbfaglbfpmnnmaaDoor
