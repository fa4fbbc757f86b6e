import Derived.Test.YtclojjiiiejfpaaDoorXgSem
import Derived.Test.YtclojjiiiejfpaaDoorXB
namespace Go.Proofs.YtclojjiiiejfpaaDoor
set_option linter.unusedSimpArgs false
set_option linter.unusedVariables false
set_option maxRecDepth 100000
attribute [local irreducible] Go.X.xE
open Go Go.X

theorem within_ok {n lo hi : Int} {w : World} (h0 : -1152921504606846976 ≤ lo) (h1 : lo ≤ hi) (h2 : hi ≤ 4611686018427387904) :
    Gives Tryd.prog 26 #[.int .i64 n, .int .i64 lo, .int .i64 hi] w fun v w' => v = .int .i64 (within n lo hi) ∧ w = w' := by
  refine C_stavebook_Within ?_
  exact xWithin h0 h1 h2 ⟨rfl, rfl⟩

theorem idxInt_ok {l : List Int} {x : Int} {v : Value} {w : World} (hsl : SlT w encI v l) (hlen : l.length ≤ 9223372036854775806) :
    Gives Tryd.prog 73 #[v, .int .i64 x] w fun u w' => u = .int .i64 (if l.findIdx (fun y => decide (x = y)) < l.length then (l.findIdx (fun y => decide (x = y)) : Int) else -1) ∧ Kept [] w w' := by
  refine C_slices_Index_int ?_
  have hr : RowB Tryd.prog 58 3 1 encI (Value.int .i64) := RowB.one SL_58 SZ_3 ONE_3
  exact xIndex hr hsl hlen (fun y _ w' K => xR_eql) (fun w' hk => ⟨rfl, hk⟩)
theorem hasInt_ok {l : List Int} {x : Int} {v : Value} {w : World} (hsl : SlT w encI v l) (hlen : l.length ≤ 9223372036854775806) :
    Gives Tryd.prog 48 #[v, .int .i64 x] w fun u w' => u = .bool (l.any fun y => decide (x = y)) ∧ Kept [] w w' := by
  refine C_slices_Contains_int ?_
  unfold S_slices_Contains_int
  refine xE_call CF_73 (idxInt_ok hsl hlen) ?_
  rintro _ w1 ⟨rfl, hk⟩
  simp only [xP_nil, xP_pick, xP_func, xP_not, xP_add, xP_sub, xP_mul, xP_lss, xP_leq, xP_gtr, xP_geq, xP_max2, xP_min2, xR_eql, xR_neq, Nat.zero_add, Nat.add_zero, Nat.reduceAdd, List.getD_cons_zero, List.getD_cons_succ, xIf_true, xIf_false, FA_23_0, FA_23_1, FA_23_2, FA_23_3, FA_23_4, FA_32_0, FA_32_1, FA_32_2, FA_63_0, FA_63_1, FA_63_2, FA_63_3, FA_80_0, FA_80_1, FA_80_2, FA_85_0, FA_85_1, FA_85_2, LEN_24, LEN_25, LEN_30, LEN_33, LEN_58, LEN_82, LEN_134, found]
  exact ⟨rfl, hk⟩

/-! ## Fields -/
theorem ldF {w : World} {b : Nat} {f : GFd} (h : Blk w b 23 (encF f)) :
    (∀ K, xR Tryd.prog (sLoad 3 (.pointer (some ⟨b, 0, none⟩))) w K ↔ K (.int .i64 f.kind)) ∧ (∀ K, xR Tryd.prog (sLoad 3 (.pointer (some ⟨b, 1, none⟩))) w K ↔ K (.int .i64 f.size)) ∧
    (∀ K, xR Tryd.prog (sLoad 3 (.pointer (some ⟨b, 2, none⟩))) w K ↔ K (.int .i64 f.lo)) ∧ (∀ K, xR Tryd.prog (sLoad 3 (.pointer (some ⟨b, 3, none⟩))) w K ↔ K (.int .i64 f.hi)) ∧
    (∀ K, xR Tryd.prog (sLoad 3 (.pointer (some ⟨b, 4, none⟩))) w K ↔ K (.int .i64 f.most)) ∧ (∀ K, xR Tryd.prog (sLoad 23 (.pointer (some ⟨b, 0, none⟩))) w K ↔ K (vF f)) :=
  ⟨fun _ => ld1 ONE_3 (h.cell (o := 0)), fun _ => ld1 ONE_3 (h.cell (o := 1)), fun _ => ld1 ONE_3 (h.cell (o := 2)), fun _ => ld1 ONE_3 (h.cell (o := 3)), fun _ => ld1 ONE_3 (h.cell (o := 4)), fun _ => ldN (l := encF f) AGG_23 h.at⟩

theorem in_ok {f : GFd} {n : Int} {w : World} : Gives Tryd.prog 61 #[vF f, .int .i64 n] w fun u w' => u = .bool (f.isIn n) ∧ Kept [] w w' := by
  refine C_gram_in ?_
  unfold S_gram_in
  refine xE_box fun w1 hb hk hz => ?_
  obtain ⟨L0, L1, L2, L3, L4, L5⟩ := ldF (f := f) hb
  simp only [xP_nil, xP_pick, xP_func, xP_not, xP_add, xP_sub, xP_mul, xP_lss, xP_leq, xP_gtr, xP_geq, xP_max2, xP_min2, xR_eql, xR_neq, Nat.zero_add, Nat.add_zero, Nat.reduceAdd, List.getD_cons_zero, List.getD_cons_succ, xIf_true, xIf_false, FA_23_0, FA_23_1, FA_23_2, FA_23_3, FA_23_4, FA_32_0, FA_32_1, FA_32_2, FA_63_0, FA_63_1, FA_63_2, FA_63_3, FA_80_0, FA_80_1, FA_80_2, FA_85_0, FA_85_1, FA_85_2, LEN_24, LEN_25, LEN_30, LEN_33, LEN_58, LEN_82, LEN_134, L2, L3, xIf_dec]
  refine ⟨fun h => ⟨?_, hk⟩, fun h => ⟨?_, hk⟩⟩
  · simp [GFd.isIn, h]
  · simp [GFd.isIn, h]

theorem right_ok {f : GFd} {w : World} (h8 : f.hi ≤ 9223372036854775807) : Gives Tryd.prog 23 #[vF f] w fun u w' => u = .bool f.right ∧ Kept [] w w' := by
  refine C_gram_Right ?_
  unfold S_gram_Right
  refine xE_box fun w1 hb hk hz => ?_
  obtain ⟨L0, L1, L2, L3, L4, L5⟩ := ldF (f := f) hb
  refine xJoin_of (fun vs w' => vs = [.bool (decide (f.lo < 0) || decide (f.hi < f.lo))] ∧ w1 = w') ?_ ?_
  · simp only [xP_nil, xP_pick, xP_func, xP_not, xP_add, xP_sub, xP_mul, xP_lss, xP_leq, xP_gtr, xP_geq, xP_max2, xP_min2, xR_eql, xR_neq, Nat.zero_add, Nat.add_zero, Nat.reduceAdd, List.getD_cons_zero, List.getD_cons_succ, xIf_true, xIf_false, FA_23_0, FA_23_1, FA_23_2, FA_23_3, FA_23_4, FA_32_0, FA_32_1, FA_32_2, FA_63_0, FA_63_1, FA_63_2, FA_63_3, FA_80_0, FA_80_1, FA_80_2, FA_85_0, FA_85_1, FA_85_2, LEN_24, LEN_25, LEN_30, LEN_33, LEN_58, LEN_82, LEN_134, L2, L3, xIf_dec]
    refine ⟨fun h => ⟨by simp [h], trivial⟩, fun h => ⟨by simp [h], trivial⟩⟩
  rintro _ _ _ ⟨rfl, rfl⟩
  simp only [xP_nil, xP_pick, xP_func, xP_not, xP_add, xP_sub, xP_mul, xP_lss, xP_leq, xP_gtr, xP_geq, xP_max2, xP_min2, xR_eql, xR_neq, Nat.zero_add, Nat.add_zero, Nat.reduceAdd, List.getD_cons_zero, List.getD_cons_succ, xIf_true, xIf_false, FA_23_0, FA_23_1, FA_23_2, FA_23_3, FA_23_4, FA_32_0, FA_32_1, FA_32_2, FA_63_0, FA_63_1, FA_63_2, FA_63_3, FA_80_0, FA_80_1, FA_80_2, FA_85_0, FA_85_1, FA_85_2, LEN_24, LEN_25, LEN_30, LEN_33, LEN_58, LEN_82, LEN_134, xIf_bool]
  refine ⟨fun h => ⟨by simp only [GFd.right, h]; rfl, hk⟩, fun h => ?_⟩
  simp only [L0]
  refine xJoin_of (fun vs w' => (f.kind = 3 ∧ f.hi ≤ 255 ∧ 0 ≤ f.most ∧ f.most ≤ 65535 ∧ Blk w' w.heap.size 23 (encF { f with most := 0 }) ∨ f.kind = 2 ∧ Blk w' w.heap.size 23 (encF f)) ∧ Kept [] w w') ?_ ?_
  · simp only [xP_nil, xP_pick, xP_func, xP_not, xP_add, xP_sub, xP_mul, xP_lss, xP_leq, xP_gtr, xP_geq, xP_max2, xP_min2, xR_eql, xR_neq, Nat.zero_add, Nat.add_zero, Nat.reduceAdd, List.getD_cons_zero, List.getD_cons_succ, xIf_true, xIf_false, FA_23_0, FA_23_1, FA_23_2, FA_23_3, FA_23_4, FA_32_0, FA_32_1, FA_32_2, FA_63_0, FA_63_1, FA_63_2, FA_63_3, FA_80_0, FA_80_1, FA_80_2, FA_85_0, FA_85_1, FA_85_2, LEN_24, LEN_25, LEN_30, LEN_33, LEN_58, LEN_82, LEN_134, xIf_dec]
    refine ⟨fun h1 => ?_, fun h1 => ⟨fun h3 => ?_, fun h3 => ⟨fun h2 => ?_, fun h2 => ?_⟩⟩⟩
    · refine xJoin_of (fun vs w' => vs = [.bool (decide (f.size = 1 ∨ f.size = 2 ∨ f.size = 4) && decide (f.hi / 2 ^ (8 * f.size).toNat = 0))] ∧ Kept [] w1 w') ?_ ?_
      · refine xE_buildSlice EL_58 [.int .i64 1, .int .i64 2, .int .i64 4] rfl rfl (by simp [Value.cells]) (by omega) (by omega) fun w2 hb2 hk2 hz2 => ?_
        obtain ⟨M0, M1, M2, M3, M4, M5⟩ := ldF (f := f) (hb.kept hk2 (by simp))
        simp only [xP_nil, xP_pick, xP_func, xP_not, xP_add, xP_sub, xP_mul, xP_lss, xP_leq, xP_gtr, xP_geq, xP_max2, xP_min2, xR_eql, xR_neq, Nat.zero_add, Nat.add_zero, Nat.reduceAdd, List.getD_cons_zero, List.getD_cons_succ, xIf_true, xIf_false, FA_23_0, FA_23_1, FA_23_2, FA_23_3, FA_23_4, FA_32_0, FA_32_1, FA_32_2, FA_63_0, FA_63_1, FA_63_2, FA_63_3, FA_80_0, FA_80_1, FA_80_2, FA_85_0, FA_85_1, FA_85_2, LEN_24, LEN_25, LEN_30, LEN_33, LEN_58, LEN_82, LEN_134, M1]
        refine xE_call CF_48 (hasInt_ok (l := [1, 2, 4]) ⟨_, _, rfl, by simp, .inr ⟨_, _, rfl, hb2.at⟩⟩ (by simp)) ?_
        rintro _ w3 ⟨rfl, hk3⟩
        obtain ⟨N0, N1, N2, N3, N4, N5⟩ := ldF (f := f) ((hb.kept hk2 (by simp)).kept hk3 (by simp))
        have e : ([1, 2, 4] : List Int).any (fun y => decide (f.size = y)) = decide (f.size = 1 ∨ f.size = 2 ∨ f.size = 4) := by
          rw [Bool.eq_iff_iff]; simp
        rw [e]
        simp only [xIf_dec]
        refine ⟨fun hs => ?_, fun hs => ⟨by simp [hs], hk2.then hk3 (by simp)⟩⟩
        simp only [xP_nil, xP_pick, xP_func, xP_not, xP_add, xP_sub, xP_mul, xP_lss, xP_leq, xP_gtr, xP_geq, xP_max2, xP_min2, xR_eql, xR_neq, Nat.zero_add, Nat.add_zero, Nat.reduceAdd, List.getD_cons_zero, List.getD_cons_succ, xIf_true, xIf_false, FA_23_0, FA_23_1, FA_23_2, FA_23_3, FA_23_4, FA_32_0, FA_32_1, FA_32_2, FA_63_0, FA_63_1, FA_63_2, FA_63_3, FA_80_0, FA_80_1, FA_80_2, FA_85_0, FA_85_1, FA_85_2, LEN_24, LEN_25, LEN_30, LEN_33, LEN_58, LEN_82, LEN_134, N3, N1]
        have h0 : 0 ≤ 8 * f.size := by omega
        rw [wrap64 (by omega) (by omega)]
        simp only [xP_conv INT_3 INT_90, wrapU64 h0 (show 8 * f.size ≤ 18446744073709551615 by omega)]
        refine (xP_shr h0).2 ?_
        have e2 : min (8 * f.size).toNat IntKind.i64.bits = (8 * f.size).toNat := by
          rw [Nat.min_eq_left]
          show _ ≤ 64
          omega
        rw [e2]
        simp only [xP_nil, xP_pick, xP_func, xP_not, xP_add, xP_sub, xP_mul, xP_lss, xP_leq, xP_gtr, xP_geq, xP_max2, xP_min2, xR_eql, xR_neq, Nat.zero_add, Nat.add_zero, Nat.reduceAdd, List.getD_cons_zero, List.getD_cons_succ, xIf_true, xIf_false, FA_23_0, FA_23_1, FA_23_2, FA_23_3, FA_23_4, FA_32_0, FA_32_1, FA_32_2, FA_63_0, FA_63_1, FA_63_2, FA_63_3, FA_80_0, FA_80_1, FA_80_2, FA_85_0, FA_85_1, FA_85_2, LEN_24, LEN_25, LEN_30, LEN_33, LEN_58, LEN_82, LEN_134]
        exact ⟨by simp [hs], hk2.then hk3 (by simp)⟩
      rintro _ _ w2 ⟨rfl, hk2⟩
      obtain ⟨N0, N1, N2, N3, N4, N5⟩ := ldF (f := f) (hb.kept hk2 (by simp))
      have hk02 : Kept [] w w2 := hk.then hk2 (by simp)
      simp only [xP_nil, xP_pick, xP_func, xP_not, xP_add, xP_sub, xP_mul, xP_lss, xP_leq, xP_gtr, xP_geq, xP_max2, xP_min2, xR_eql, xR_neq, Nat.zero_add, Nat.add_zero, Nat.reduceAdd, List.getD_cons_zero, List.getD_cons_succ, xIf_true, xIf_false, FA_23_0, FA_23_1, FA_23_2, FA_23_3, FA_23_4, FA_32_0, FA_32_1, FA_32_2, FA_63_0, FA_63_1, FA_63_2, FA_63_3, FA_80_0, FA_80_1, FA_80_2, FA_85_0, FA_85_1, FA_85_2, LEN_24, LEN_25, LEN_30, LEN_33, LEN_58, LEN_82, LEN_134, N4, N1, xIf_dec, xIf_bool]
      refine ⟨fun hm => ⟨fun hs => ⟨?_, hk02⟩, fun hs => ⟨?_, hk02⟩⟩, fun hm => ⟨?_, hk02⟩⟩
      · simp only [GFd.right, h, h1, hm, hs]; rfl
      · simp only [GFd.right, h, h1, hm, hs]; rfl
      · simp only [GFd.right, h, h1, hm]; rfl
    · refine xJoin_of (fun vs w' => vs = [.bool (decide (255 < f.hi) || decide (f.most < 0) || decide (65535 < f.most))] ∧ w1 = w') ?_ ?_
      · simp only [xP_nil, xP_pick, xP_func, xP_not, xP_add, xP_sub, xP_mul, xP_lss, xP_leq, xP_gtr, xP_geq, xP_max2, xP_min2, xR_eql, xR_neq, Nat.zero_add, Nat.add_zero, Nat.reduceAdd, List.getD_cons_zero, List.getD_cons_succ, xIf_true, xIf_false, FA_23_0, FA_23_1, FA_23_2, FA_23_3, FA_23_4, FA_32_0, FA_32_1, FA_32_2, FA_63_0, FA_63_1, FA_63_2, FA_63_3, FA_80_0, FA_80_1, FA_80_2, FA_85_0, FA_85_1, FA_85_2, LEN_24, LEN_25, LEN_30, LEN_33, LEN_58, LEN_82, LEN_134, L3, L4, xIf_dec]
        refine ⟨fun a => ⟨by simp [a], trivial⟩, fun a => ⟨fun b => ⟨by simp [a, b], trivial⟩, fun b => ⟨by simp [a, b], trivial⟩⟩⟩
      rintro _ _ _ ⟨rfl, rfl⟩
      simp only [xP_nil, xP_pick, xP_func, xP_not, xP_add, xP_sub, xP_mul, xP_lss, xP_leq, xP_gtr, xP_geq, xP_max2, xP_min2, xR_eql, xR_neq, Nat.zero_add, Nat.add_zero, Nat.reduceAdd, List.getD_cons_zero, List.getD_cons_succ, xIf_true, xIf_false, FA_23_0, FA_23_1, FA_23_2, FA_23_3, FA_23_4, FA_32_0, FA_32_1, FA_32_2, FA_63_0, FA_63_1, FA_63_2, FA_63_3, FA_80_0, FA_80_1, FA_80_2, FA_85_0, FA_85_1, FA_85_2, LEN_24, LEN_25, LEN_30, LEN_33, LEN_58, LEN_82, LEN_134, xIf_bool]
      refine ⟨fun a => ⟨?_, hk⟩, fun a => ?_⟩
      · simp only [GFd.right, h, h3, a]; rfl
      · refine xE_store1 SZ_3 hb (by simp [vF, encF, Value.cells]) rfl fun w2 hb2 hk2 hz2 => ?_
        simp only [Bool.or_eq_false_iff, decide_eq_false_iff_not] at a
        exact ⟨.inl ⟨h3, by omega, by omega, by omega, by simpa [vF, encF, Value.cells] using hb2⟩, hk.then hk2 (by simp)⟩
    · exact ⟨.inr ⟨h2, hb⟩, hk⟩
    · refine ⟨?_, hk⟩
      simp only [GFd.right, h, h1, h2, h3]; rfl
  rintro _ _ w2 ⟨hc, hk2⟩
  rcases hc with ⟨h3, ha, hb0, hb1, hb2⟩ | ⟨h2, hb2⟩
  · obtain ⟨N0, N1, N2, N3, N4, N5⟩ := ldF hb2
    simp only [xP_nil, xP_pick, xP_func, xP_not, xP_add, xP_sub, xP_mul, xP_lss, xP_leq, xP_gtr, xP_geq, xP_max2, xP_min2, xR_eql, xR_neq, Nat.zero_add, Nat.add_zero, Nat.reduceAdd, List.getD_cons_zero, List.getD_cons_succ, xIf_true, xIf_false, FA_23_0, FA_23_1, FA_23_2, FA_23_3, FA_23_4, FA_32_0, FA_32_1, FA_32_2, FA_63_0, FA_63_1, FA_63_2, FA_63_3, FA_80_0, FA_80_1, FA_80_2, FA_85_0, FA_85_1, FA_85_2, LEN_24, LEN_25, LEN_30, LEN_33, LEN_58, LEN_82, LEN_134, N1, N3, N4, xIf_dec, decide_true, forall_const, not_true_eq_false, false_implies, and_true]
    refine ⟨fun a => ⟨?_, hk2⟩, fun a => ⟨?_, hk2⟩⟩
    · simp only [GFd.right, h, h3, a]
      simp
      omega
    · simp only [GFd.right, h, h3, a]
      simp
  · obtain ⟨N0, N1, N2, N3, N4, N5⟩ := ldF hb2
    simp only [xP_nil, xP_pick, xP_func, xP_not, xP_add, xP_sub, xP_mul, xP_lss, xP_leq, xP_gtr, xP_geq, xP_max2, xP_min2, xR_eql, xR_neq, Nat.zero_add, Nat.add_zero, Nat.reduceAdd, List.getD_cons_zero, List.getD_cons_succ, xIf_true, xIf_false, FA_23_0, FA_23_1, FA_23_2, FA_23_3, FA_23_4, FA_32_0, FA_32_1, FA_32_2, FA_63_0, FA_63_1, FA_63_2, FA_63_3, FA_80_0, FA_80_1, FA_80_2, FA_85_0, FA_85_1, FA_85_2, LEN_24, LEN_25, LEN_30, LEN_33, LEN_58, LEN_82, LEN_134, N1, N3, N4, xIf_dec]
    refine ⟨fun a => ⟨fun b => ⟨?_, hk2⟩, fun b => ⟨?_, hk2⟩⟩, fun a => ⟨?_, hk2⟩⟩
    · simp only [GFd.right, h, h2, a, b]; simp
    · simp only [GFd.right, h, h2, a, b]; simp
    · simp only [GFd.right, h, h2, a]; simp
end Go.Proofs.YtclojjiiiejfpaaDoor
