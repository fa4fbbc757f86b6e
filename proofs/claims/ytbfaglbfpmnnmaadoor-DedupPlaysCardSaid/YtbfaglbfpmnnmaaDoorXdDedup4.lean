import Derived.Test.YtbfaglbfpmnnmaaDoorXdDedup3
import Derived.Test.YtbfaglbfpmnnmaaDoorXArr
import Derived.Test.YtbfaglbfpmnnmaaDoorXOpen2
namespace Go.Proofs.YtbfaglbfpmnnmaaDoor
set_option linter.unusedSimpArgs false
set_option linter.unusedVariables false
set_option maxRecDepth 100000
attribute [local irreducible] Go.X.xE
open Go Go.X Go.RowKit

/-! ## A twin -/
theorem UMS : Tryd.prog.underlying 37 = some (.map 3 25) := by kernel_rfl
theorem CMS : concB Tryd.prog 37 = true := by kernel_rfl
theorem BOOL : boolB Tryd.prog 4 := by unfold boolB; kernel_rfl
theorem clone_ok {r : Nat} {m : List (Int × Sn)} {w : World} (h : MapOf w r vSn m) : Gives Tryd.prog 35 #[.map (some r)] w fun u w' => u = .map (some w.heap.size) ∧ MapOf w' w.heap.size vSn m ∧ Kept [] w w' := by
  refine C_maps_Clone_api_Sent ?_
  unfold S_maps_Clone_api_Sent
  refine (xR_eqlMapNil UMS).2 ?_
  simp only [xP_nil, xP_pick, xP_func, xP_not, xP_add, xP_sub, xP_mul, xP_lss, xP_leq, xP_gtr, xP_geq, xP_max2, xP_min2, xR_eql, xR_neq, Nat.zero_add, Nat.add_zero, Nat.reduceAdd, List.getD_cons_zero, List.getD_cons_succ, xIf_true, xIf_false, FA_25_0, FA_39_0, FA_41_0, FA_41_1, FA_41_2, FA_56_0, FA_56_1, FA_56_2, FA_56_3, FA_56_4, FA_56_5, FA_72_0, FA_79_0, FA_79_1, FA_93_0, FA_93_1, FA_93_2, FA_102_2, FA_123_0, FA_123_1, FA_123_2, FA_123_3, FA_123_4, FA_131_0, FA_131_1, FA_131_2, LEN_35, LEN_45, LEN_49, LEN_53, LEN_54, LEN_57, LEN_86, LEN_88, LEN_147, xP_iface CMS]
  obtain ⟨w', hr, hm, hk, hz⟩ := clone_run (P := Tryd.prog) 37 h
  refine xE_extern (e := Extern.MapsClone.clone) Tryd.func55 (by kernel_rfl) (by kernel_rfl) (by kernel_rfl) (by kernel_rfl) hr ?_
  refine (xP_assertV CMS).2 ?_
  exact ⟨rfl, hm, hk⟩
theorem twin_ok {d r : Nat} {m : List (Int × Sn)} {w : World} (h : Ded w d r m) : Gives Tryd.prog 19 #[.pointer (some ⟨d, 0, none⟩)] w fun u w' =>
    ∃ d' r', u = .pointer (some ⟨d', 0, none⟩) ∧ Ded w' d' r' m ∧ w.heap.size ≤ d' ∧ w.heap.size ≤ r' ∧ Kept [] w w' := by
  refine C_dedup_Dedup_Twin ?_
  unfold S_dedup_Dedup_Twin
  simp only [xP_nil, xP_pick, xP_func, xP_not, xP_add, xP_sub, xP_mul, xP_lss, xP_leq, xP_gtr, xP_geq, xP_max2, xP_min2, xR_eql, xR_neq, Nat.zero_add, Nat.add_zero, Nat.reduceAdd, List.getD_cons_zero, List.getD_cons_succ, xIf_true, xIf_false, FA_25_0, FA_39_0, FA_41_0, FA_41_1, FA_41_2, FA_56_0, FA_56_1, FA_56_2, FA_56_3, FA_56_4, FA_56_5, FA_72_0, FA_79_0, FA_79_1, FA_93_0, FA_93_1, FA_93_2, FA_102_2, FA_123_0, FA_123_1, FA_123_2, FA_123_3, FA_123_4, FA_131_0, FA_131_1, FA_131_2, LEN_35, LEN_45, LEN_49, LEN_53, LEN_54, LEN_57, LEN_86, LEN_88, LEN_147]
  refine (ld1 ONE_37 (h.blk.cell (o := 0))).2 ?_
  refine xE_call CF_35 (clone_ok h.map) ?_
  rintro _ w1 ⟨rfl, hm1, hk1⟩
  refine (xP_build (cells := #[.map (some w.heap.size)]) (by kernel_rfl)).2 ?_
  refine xE_box fun w2 hb2 hk2 hz2 => ?_
  have := hm1.lt
  exact ⟨_, _, rfl, ⟨hb2, hm1.kept hk2 (by simp), by omega⟩, by omega, Nat.le_refl _, hk1.then hk2 (by simp)⟩

/-! ## The document's own deduplicator -/
structure RDed (w : World) (d r : Nat) (m : List (Int × Sn)) : Prop where
  blk : Blk w d 39 [.map (some r)]
  map : MapOf w r vSn m
  ne : d ≠ r
theorem RDed.kept {w w' : World} {d r : Nat} {m : List (Int × Sn)} {M : List Nat} (h : RDed w d r m) (hk : Kept M w w') (h1 : d ∉ M) (h2 : r ∉ M) : RDed w' d r m := ⟨h.blk.kept hk h1, h.map.kept hk h2, h.ne⟩
theorem RDed.kept0 {w w' : World} {d r : Nat} {m : List (Int × Sn)} (h : RDed w d r m) (hk : Kept [] w w') : RDed w' d r m := h.kept hk (by simp) (by simp)
theorem rnote_ok {d r : Nat} {m : List (Int × Sn)} {p : Int} {s : Sn} {w : World} (h : RDed w d r m) : Gives Tryd.prog 17 #[.pointer (some ⟨d, 0, none⟩), .int .i64 p, vSn s] w fun u w' => RDed w' d r (dedNote m p s) ∧ Kept [r] w w' := by
  refine C_staveref14_Dedup_Note ?_
  unfold S_staveref14_Dedup_Note
  refine xE_box fun w1 hb1 hk1 hz1 => ?_
  have hb1' : Blk w1 w.heap.size 25 (encSn s) := hb1
  have h1 := h.kept0 hk1
  have hlt := h.map.lt
  simp only [xP_nil, xP_pick, xP_func, xP_not, xP_add, xP_sub, xP_mul, xP_lss, xP_leq, xP_gtr, xP_geq, xP_max2, xP_min2, xR_eql, xR_neq, Nat.zero_add, Nat.add_zero, Nat.reduceAdd, List.getD_cons_zero, List.getD_cons_succ, xIf_true, xIf_false, FA_25_0, FA_39_0, FA_41_0, FA_41_1, FA_41_2, FA_56_0, FA_56_1, FA_56_2, FA_56_3, FA_56_4, FA_56_5, FA_72_0, FA_79_0, FA_79_1, FA_93_0, FA_93_1, FA_93_2, FA_102_2, FA_123_0, FA_123_1, FA_123_2, FA_123_3, FA_123_4, FA_131_0, FA_131_1, FA_131_2, LEN_35, LEN_45, LEN_49, LEN_53, LEN_54, LEN_57, LEN_86, LEN_88, LEN_147, xIf_dec]
  unfold dedNote
  refine ⟨fun hne => ?_, fun heq => ?_⟩
  · rw [if_neg hne]
    have hd : Kept [] w1 w1.drew := (Kept.refl _ _).drew
    have h2 := h1.kept0 hd
    refine (ld1 ONE_37 (h2.blk.cell (o := 0))).2 ?_
    refine ((ldSn (blk_drew hb1')).2 _).2 ?_
    refine xE_mapUpdate MP_37 h2.map rfl fun w3 hm3 hk3 hz3 => ?_
    exact ⟨⟨h2.blk.kept hk3 (by simp; exact h.ne), hm3, h.ne⟩, (hk1.drew.mono (by simp)).then hk3 (by simp)⟩
  · rw [if_pos (by omega)]
    exact ⟨h1, hk1.mono (by simp)⟩
theorem rask_ok {d r : Nat} {m : List (Int × Sn)} {p s : Int} {w : World} (h : RDed w d r m) : Gives Tryd.prog 18 #[.pointer (some ⟨d, 0, none⟩), .int .i64 p, .int .i64 s] w fun u w' =>
    u = .tuple #[vSn (dedAsk m p s).1, .int .i64 (if (dedAsk m p s).2.1 then 1 else 0), .int .i64 (optKind (dedAsk m p s).2.2)] ∧ Kept [] w w' := by
  refine C_staveref14_Dedup_Ask ?_
  unfold S_staveref14_Dedup_Ask
  refine xE_alloc Z_25 fun w1 hb1 hk1 hz1 => ?_
  have hb1' : Blk w1 w.heap.size 25 (encSn snZ) := hb1
  have h1 := h.kept0 hk1
  generalize eB : w.heap.size = B at *
  have out : ∀ (x : Sn) (b : Bool) (e : Option Er) (i k : Int) (w' : World), Kept [] w w' → Blk w' B 25 (encSn snZ) → dedAsk m p s = (x, b, e) → i = (if b then 1 else 0) → k = optKind e →
      xE Tryd.prog (sStore 25 (.pointer (some ⟨B, 0, none⟩)) (vSn x)) w' fun _ w5 => xR Tryd.prog (sLoad 25 (.pointer (some ⟨B, 0, none⟩))) w5 fun r6 =>
        Ret (fun u w' => u = .tuple #[vSn (dedAsk m p s).1, .int .i64 (if (dedAsk m p s).2.1 then 1 else 0), .int .i64 (optKind (dedAsk m p s).2.2)] ∧ Kept [] w w') (.returned (.tuple #[r6, .int .i64 i, .int .i64 k])) w5 := by
    intro x b e i k w' hk' hb' he hi hkk
    refine xE_storeN (l1 := []) (l2 := encSn snZ) (l3 := []) SZ_25 hb' rfl rfl rfl (encSn_one x) fun w5 hb5 hk5 hz5 => ?_
    refine ((ldSn (x := x) (by simpa [vSn, Value.cells] using hb5)).2 _).2 ?_
    rw [he, hi, hkk]
    exact ⟨rfl, hk'.then hk5 (by simp; omega)⟩
  simp only [xP_nil, xP_pick, xP_func, xP_not, xP_add, xP_sub, xP_mul, xP_lss, xP_leq, xP_gtr, xP_geq, xP_max2, xP_min2, xR_eql, xR_neq, Nat.zero_add, Nat.add_zero, Nat.reduceAdd, List.getD_cons_zero, List.getD_cons_succ, xIf_true, xIf_false, FA_25_0, FA_39_0, FA_41_0, FA_41_1, FA_41_2, FA_56_0, FA_56_1, FA_56_2, FA_56_3, FA_56_4, FA_56_5, FA_72_0, FA_79_0, FA_79_1, FA_93_0, FA_93_1, FA_93_2, FA_102_2, FA_123_0, FA_123_1, FA_123_2, FA_123_3, FA_123_4, FA_131_0, FA_131_1, FA_131_2, LEN_35, LEN_45, LEN_49, LEN_53, LEN_54, LEN_57, LEN_86, LEN_88, LEN_147, xIf_dec]
  refine ⟨fun h0 => ?_, fun h0 => ?_⟩
  · refine (xP_build b0Sn).2 ?_
    subst h0
    exact out snZ false none 0 0 w1 hk1 hb1' ask_zero rfl rfl
  · refine xJoin_of (fun vs w' => vs = [.bool (decide (p < 0 ∨ 1048576 < p ∨ s < 0 ∨ 1099511627776 < s))] ∧ w1 = w') ?_ ?_
    · simp only [xIf_dec]
      refine ⟨fun a => ⟨by simp [a], trivial⟩, fun a => ⟨fun b => ⟨by simp [b], trivial⟩, fun b => ⟨fun c => ⟨by simp [c], trivial⟩, fun c => ⟨by simp [a, b, c], trivial⟩⟩⟩⟩
    rintro _ _ _ ⟨rfl, rfl⟩
    simp only [xP_nil, xP_pick, xP_func, xP_not, xP_add, xP_sub, xP_mul, xP_lss, xP_leq, xP_gtr, xP_geq, xP_max2, xP_min2, xR_eql, xR_neq, Nat.zero_add, Nat.add_zero, Nat.reduceAdd, List.getD_cons_zero, List.getD_cons_succ, xIf_true, xIf_false, FA_25_0, FA_39_0, FA_41_0, FA_41_1, FA_41_2, FA_56_0, FA_56_1, FA_56_2, FA_56_3, FA_56_4, FA_56_5, FA_72_0, FA_79_0, FA_79_1, FA_93_0, FA_93_1, FA_93_2, FA_102_2, FA_123_0, FA_123_1, FA_123_2, FA_123_3, FA_123_4, FA_131_0, FA_131_1, FA_131_2, LEN_35, LEN_45, LEN_49, LEN_53, LEN_54, LEN_57, LEN_86, LEN_88, LEN_147, xIf_dec]
    refine ⟨fun hbad => ?_, fun hgood => ?_⟩
    · refine (xP_build b0Sn).2 ?_
      exact out snZ false (some (.flt opDA p (.no 1))) 0 1 w1 hk1 hb1' (ask_bad h0 hbad) rfl rfl
    · have hfine : dedFine p s := by unfold dedFine; omega
      refine (ld1 ONE_37 (h1.blk.cell (o := 0))).2 ?_
      refine (xR_lookupOk MP_37 h1.map (z := vSn snZ) Z_25).2 ?_
      refine (xP_extract (v := ((mget m p).map vSn).getD (vSn snZ)) rfl).2 ?_
      refine (xP_extract (v := .bool (mget m p).isSome) rfl).2 ?_
      cases hm : mget m p with
      | none =>
        refine newSn (x := snZ) fun w2 hb2 hk2 => ?_
        have hk02 := hk1.then hk2 (by simp)
        have hb12 := hb1'.kept hk2 (by simp)
        simp only [Option.isSome_none]
        have ha := ask_none hfine hm
        refine xJoin_of (fun vs w' => vs = [.bool (decide (s = 0))] ∧ w2 = w') ?_ ?_
        · simp only [xP_nil, xP_pick, xP_func, xP_not, xP_add, xP_sub, xP_mul, xP_lss, xP_leq, xP_gtr, xP_geq, xP_max2, xP_min2, xR_eql, xR_neq, Nat.zero_add, Nat.add_zero, Nat.reduceAdd, List.getD_cons_zero, List.getD_cons_succ, xIf_true, xIf_false, FA_25_0, FA_39_0, FA_41_0, FA_41_1, FA_41_2, FA_56_0, FA_56_1, FA_56_2, FA_56_3, FA_56_4, FA_56_5, FA_72_0, FA_79_0, FA_79_1, FA_93_0, FA_93_1, FA_93_2, FA_102_2, FA_123_0, FA_123_1, FA_123_2, FA_123_3, FA_123_4, FA_131_0, FA_131_1, FA_131_2, LEN_35, LEN_45, LEN_49, LEN_53, LEN_54, LEN_57, LEN_86, LEN_88, LEN_147, Bool.not_false, xIf_dec]
          exact ⟨fun hz => ⟨by rw [decide_eq_true hz], trivial⟩, fun hz => ⟨by rw [decide_eq_false hz], trivial⟩⟩
        rintro _ _ _ ⟨rfl, rfl⟩
        simp only [xP_nil, xP_pick, xP_func, xP_not, xP_add, xP_sub, xP_mul, xP_lss, xP_leq, xP_gtr, xP_geq, xP_max2, xP_min2, xR_eql, xR_neq, Nat.zero_add, Nat.add_zero, Nat.reduceAdd, List.getD_cons_zero, List.getD_cons_succ, xIf_true, xIf_false, FA_25_0, FA_39_0, FA_41_0, FA_41_1, FA_41_2, FA_56_0, FA_56_1, FA_56_2, FA_56_3, FA_56_4, FA_56_5, FA_72_0, FA_79_0, FA_79_1, FA_93_0, FA_93_1, FA_93_2, FA_102_2, FA_123_0, FA_123_1, FA_123_2, FA_123_3, FA_123_4, FA_131_0, FA_131_1, FA_131_2, LEN_35, LEN_45, LEN_49, LEN_53, LEN_54, LEN_57, LEN_86, LEN_88, LEN_147, xIf_dec]
        refine ⟨fun hz => ?_, fun hz => ?_⟩
        · refine (xP_build b0Sn).2 ?_
          rw [if_pos hz] at ha
          exact out snZ false none 0 0 w2 hk02 hb12 ha rfl rfl
        · refine xJoin_one ?_
          simp only [xP_nil, xP_pick, xP_func, xP_not, xP_add, xP_sub, xP_mul, xP_lss, xP_leq, xP_gtr, xP_geq, xP_max2, xP_min2, xR_eql, xR_neq, Nat.zero_add, Nat.add_zero, Nat.reduceAdd, List.getD_cons_zero, List.getD_cons_succ, xIf_true, xIf_false, FA_25_0, FA_39_0, FA_41_0, FA_41_1, FA_41_2, FA_56_0, FA_56_1, FA_56_2, FA_56_3, FA_56_4, FA_56_5, FA_72_0, FA_79_0, FA_79_1, FA_93_0, FA_93_1, FA_93_2, FA_102_2, FA_123_0, FA_123_1, FA_123_2, FA_123_3, FA_123_4, FA_131_0, FA_131_1, FA_131_2, LEN_35, LEN_45, LEN_49, LEN_53, LEN_54, LEN_57, LEN_86, LEN_88, LEN_147]
          intro _
          refine (xP_build b0Sn).2 ?_
          rw [if_neg hz] at ha
          exact out snZ false (some (.flt opDA p (.no 12))) 0 12 w2 hk02 hb12 ha rfl rfl
      | some x =>
        refine newSn (x := x) fun w2 hb2 hk2 => ?_
        have hk02 := hk1.then hk2 (by simp)
        have hb12 := hb1'.kept hk2 (by simp)
        obtain ⟨L0, L1⟩ := ldSn hb2
        simp only [Option.isSome_some]
        have ha := ask_some hfine hm
        have hxx : ¬ x.seq = IntKind.i64.wrap (x.seq + 1) := by rw [IntKind.wrap_i64]; omega
        refine xJoin_of (fun vs w' => vs = [.bool (decide (s = IntKind.i64.wrap (x.seq + 1)))] ∧ w2 = w') ?_ ?_
        · simp only [xP_nil, xP_pick, xP_func, xP_not, xP_add, xP_sub, xP_mul, xP_lss, xP_leq, xP_gtr, xP_geq, xP_max2, xP_min2, xR_eql, xR_neq, Nat.zero_add, Nat.add_zero, Nat.reduceAdd, List.getD_cons_zero, List.getD_cons_succ, xIf_true, xIf_false, FA_25_0, FA_39_0, FA_41_0, FA_41_1, FA_41_2, FA_56_0, FA_56_1, FA_56_2, FA_56_3, FA_56_4, FA_56_5, FA_72_0, FA_79_0, FA_79_1, FA_93_0, FA_93_1, FA_93_2, FA_102_2, FA_123_0, FA_123_1, FA_123_2, FA_123_3, FA_123_4, FA_131_0, FA_131_1, FA_131_2, LEN_35, LEN_45, LEN_49, LEN_53, LEN_54, LEN_57, LEN_86, LEN_88, LEN_147, Bool.not_true, L0]
          exact ⟨trivial, trivial⟩
        rintro _ _ _ ⟨rfl, rfl⟩
        simp only [xP_nil, xP_pick, xP_func, xP_not, xP_add, xP_sub, xP_mul, xP_lss, xP_leq, xP_gtr, xP_geq, xP_max2, xP_min2, xR_eql, xR_neq, Nat.zero_add, Nat.add_zero, Nat.reduceAdd, List.getD_cons_zero, List.getD_cons_succ, xIf_true, xIf_false, FA_25_0, FA_39_0, FA_41_0, FA_41_1, FA_41_2, FA_56_0, FA_56_1, FA_56_2, FA_56_3, FA_56_4, FA_56_5, FA_72_0, FA_79_0, FA_79_1, FA_93_0, FA_93_1, FA_93_2, FA_102_2, FA_123_0, FA_123_1, FA_123_2, FA_123_3, FA_123_4, FA_131_0, FA_131_1, FA_131_2, LEN_35, LEN_45, LEN_49, LEN_53, LEN_54, LEN_57, LEN_86, LEN_88, LEN_147, xIf_dec]
        refine ⟨fun hz => ?_, fun hz => ?_⟩
        · refine (xP_build b0Sn).2 ?_
          rw [if_neg (by omega), if_pos hz] at ha
          exact out snZ false none 0 0 w2 hk02 hb12 ha rfl rfl
        · refine xJoin_of (fun vs w' => vs = [.bool (decide (s = x.seq))] ∧ w2 = w') ?_ ?_
          · simp only [xP_nil, xP_pick, xP_func, xP_not, xP_add, xP_sub, xP_mul, xP_lss, xP_leq, xP_gtr, xP_geq, xP_max2, xP_min2, xR_eql, xR_neq, Nat.zero_add, Nat.add_zero, Nat.reduceAdd, List.getD_cons_zero, List.getD_cons_succ, xIf_true, xIf_false, FA_25_0, FA_39_0, FA_41_0, FA_41_1, FA_41_2, FA_56_0, FA_56_1, FA_56_2, FA_56_3, FA_56_4, FA_56_5, FA_72_0, FA_79_0, FA_79_1, FA_93_0, FA_93_1, FA_93_2, FA_102_2, FA_123_0, FA_123_1, FA_123_2, FA_123_3, FA_123_4, FA_131_0, FA_131_1, FA_131_2, LEN_35, LEN_45, LEN_49, LEN_53, LEN_54, LEN_57, LEN_86, LEN_88, LEN_147, L0]
            exact ⟨trivial, trivial⟩
          rintro _ _ _ ⟨rfl, rfl⟩
          simp only [xP_nil, xP_pick, xP_func, xP_not, xP_add, xP_sub, xP_mul, xP_lss, xP_leq, xP_gtr, xP_geq, xP_max2, xP_min2, xR_eql, xR_neq, Nat.zero_add, Nat.add_zero, Nat.reduceAdd, List.getD_cons_zero, List.getD_cons_succ, xIf_true, xIf_false, FA_25_0, FA_39_0, FA_41_0, FA_41_1, FA_41_2, FA_56_0, FA_56_1, FA_56_2, FA_56_3, FA_56_4, FA_56_5, FA_72_0, FA_79_0, FA_79_1, FA_93_0, FA_93_1, FA_93_2, FA_102_2, FA_123_0, FA_123_1, FA_123_2, FA_123_3, FA_123_4, FA_131_0, FA_131_1, FA_131_2, LEN_35, LEN_45, LEN_49, LEN_53, LEN_54, LEN_57, LEN_86, LEN_88, LEN_147, xIf_dec]
          refine ⟨fun hz2 => ?_, fun hz2 => ?_⟩
          · simp only [L1]
            rw [if_pos hz2] at ha
            exact out x true none 1 0 w2 hk02 hb12 ha rfl rfl
          · refine (xP_build b0Sn).2 ?_
            rw [if_neg hz2, if_neg hz] at ha
            exact out snZ false (some (.flt opDA p (.no 12))) 0 12 w2 hk02 hb12 ha rfl rfl

/-! ## Asks -/
structure DAsk where
  kind : Int
  p : Int
  s : Int
def encDA (x : DAsk) : List Value := [.int .i64 x.kind, .int .i64 x.p, .int .i64 x.s]
theorem encDA_len (x : DAsk) : (encDA x).length = 3 := rfl
theorem encDA_one (x : DAsk) : ∀ u ∈ encDA x, u.oneCell' = true := by intro u hu; simp [encDA] at hu; rcases hu with rfl | rfl | rfl <;> rfl
theorem rowDA : RowB Tryd.prog 35 41 3 encDA fun x => .agg (encDA x).toArray := RowB.agg SL_35 SZ_41 encDA_len AGG_41
end Go.Proofs.YtbfaglbfpmnnmaaDoor
