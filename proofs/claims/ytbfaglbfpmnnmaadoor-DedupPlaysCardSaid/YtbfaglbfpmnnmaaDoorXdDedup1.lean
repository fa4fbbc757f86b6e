import Derived.Test.YtbfaglbfpmnnmaaDoorXdFault2
import Derived.Test.YtbfaglbfpmnnmaaDoorXDedS
namespace Go.Proofs.YtbfaglbfpmnnmaaDoor
set_option linter.unusedSimpArgs false
set_option linter.unusedVariables false
set_option maxRecDepth 100000
attribute [local irreducible] Go.X.xE
open Go Go.X Go.RowKit

def optV : Option Er → Value
  | none => .nilIface
  | some e => erV e
theorem FLSn : flatB Tryd.prog 25 [(0, false), (1, false), (2, false)] := ⟨by kernel_rfl, by kernel_rfl, by kernel_rfl, by kernel_rfl⟩
theorem eqSn {x y : Sn} {c : Bool} {w : World} {K : Value → Prop} : xR Tryd.prog (sEq .eql 25 c (vSn x) (vSn y)) w K ↔ K (.bool (decide (x = y))) := by
  refine (xR_eqlF FLSn (fun s hs => ⟨cellsSn x s hs, cellsSn y s hs⟩)).trans ?_
  rw [allSn]
theorem neSn {x y : Sn} {c : Bool} {w : World} {K : Value → Prop} : xR Tryd.prog (sEq .neq 25 c (vSn x) (vSn y)) w K ↔ K (.bool (!decide (x = y))) := by
  refine (xR_neqF FLSn (fun s hs => ⟨cellsSn x s hs, cellsSn y s hs⟩)).trans ?_
  rw [allSn]
theorem ldSn {w : World} {b : Nat} {x : Sn} (h : Blk w b 25 (encSn x)) :
    (∀ K, xR Tryd.prog (sLoad 3 (.pointer (some ⟨b, 0, none⟩))) w K ↔ K (.int .i64 x.seq)) ∧ (∀ K, xR Tryd.prog (sLoad 25 (.pointer (some ⟨b, 0, none⟩))) w K ↔ K (vSn x)) :=
  ⟨fun _ => ld1 ONE_3 (h.cell (o := 0)), fun _ => ldN (l := encSn x) AGG_25 h.at⟩
/-- A new variable that gets a Sent. -/
theorem newSn {x : Sn} {w : World} {K : Value → World → Prop} (k : ∀ w', Blk w' w.heap.size 25 (encSn x) → Kept [] w w' → K (.pointer (some ⟨w.heap.size, 0, none⟩)) w') :
    xE Tryd.prog (sAlloc 25) w fun v w1 => xE Tryd.prog (sStore 25 v (vSn x)) w1 fun _ w2 => K v w2 := by
  refine xE_alloc Z_25 fun w1 hb1 hk1 hz1 => ?_
  refine xE_storeN (l1 := []) (l2 := encSn snZ) (l3 := []) SZ_25 hb1 rfl rfl rfl (encSn_one x) fun w2 hb2 hk2 hz2 => ?_
  exact k w2 (by simpa [vSn, Value.cells] using hb2) (hk1.trans hk2 (by simp) (by simp))

/-! ## The deduplicator -/
structure Ded (w : World) (d r : Nat) (m : List (Int × Sn)) : Prop where
  blk : Blk w d 72 [.map (some r)]
  map : MapOf w r vSn m
  ne : d ≠ r
theorem Ded.kept {w w' : World} {d r : Nat} {m : List (Int × Sn)} {M : List Nat} (h : Ded w d r m) (hk : Kept M w w') (h1 : d ∉ M) (h2 : r ∉ M) : Ded w' d r m := ⟨h.blk.kept hk h1, h.map.kept hk h2, h.ne⟩
theorem Ded.kept0 {w w' : World} {d r : Nat} {m : List (Int × Sn)} (h : Ded w d r m) (hk : Kept [] w w') : Ded w' d r m := h.kept hk (by simp) (by simp)
theorem new_ok {w : World} : Gives Tryd.prog 11 #[] w fun u w' => ∃ d r, u = .pointer (some ⟨d, 0, none⟩) ∧ Ded w' d r [] ∧ w.heap.size ≤ d ∧ w.heap.size ≤ r ∧ Kept [] w w' := by
  refine C_dedup_New ?_
  unfold S_dedup_New
  refine xE_makeMap (val := vSn) MP_37 (.inl rfl) fun w1 hm1 hk1 hz1 => ?_
  refine (xP_build (cells := #[.map (some w.heap.size)]) (by kernel_rfl)).2 ?_
  refine xE_box fun w2 hb2 hk2 hz2 => ?_
  exact ⟨_, _, rfl, ⟨hb2, hm1.kept hk2 (by simp), by omega⟩, by omega, Nat.le_refl _, hk1.then hk2 (by simp)⟩
theorem len_ok {d r : Nat} {m : List (Int × Sn)} {w : World} (h : Ded w d r m) : Gives Tryd.prog 15 #[.pointer (some ⟨d, 0, none⟩)] w fun u w' => u = .int .i64 m.length ∧ w = w' := by
  refine C_dedup_Dedup_Len ?_
  unfold S_dedup_Dedup_Len
  simp only [xP_nil, xP_pick, xP_func, xP_not, xP_add, xP_sub, xP_mul, xP_lss, xP_leq, xP_gtr, xP_geq, xP_max2, xP_min2, xR_eql, xR_neq, Nat.zero_add, Nat.add_zero, Nat.reduceAdd, List.getD_cons_zero, List.getD_cons_succ, xIf_true, xIf_false, FA_25_0, FA_39_0, FA_41_0, FA_41_1, FA_41_2, FA_56_0, FA_56_1, FA_56_2, FA_56_3, FA_56_4, FA_56_5, FA_72_0, FA_79_0, FA_79_1, FA_93_0, FA_93_1, FA_93_2, FA_102_2, FA_123_0, FA_123_1, FA_123_2, FA_123_3, FA_123_4, FA_131_0, FA_131_1, FA_131_2, LEN_35, LEN_45, LEN_49, LEN_53, LEN_54, LEN_57, LEN_86, LEN_88, LEN_147]
  refine (ld1 ONE_37 (h.blk.cell (o := 0))).2 ?_
  refine (xR_lenM MP_37 h.map).2 ?_
  exact ⟨rfl, rfl⟩
theorem note_ok {d r : Nat} {m : List (Int × Sn)} {p : Int} {s : Sn} {w : World} (h : Ded w d r m) : Gives Tryd.prog 13 #[.pointer (some ⟨d, 0, none⟩), .int .i64 p, vSn s] w fun u w' => Ded w' d r (dedNote m p s) ∧ Kept [r] w w' := by
  refine C_dedup_Dedup_Note ?_
  unfold S_dedup_Dedup_Note
  refine xE_box fun w1 hb1 hk1 hz1 => ?_
  have hb1' : Blk w1 w.heap.size 25 (encSn s) := hb1
  have h1 := h.kept0 hk1
  have hlt := h.map.lt
  simp only [xP_nil, xP_pick, xP_func, xP_not, xP_add, xP_sub, xP_mul, xP_lss, xP_leq, xP_gtr, xP_geq, xP_max2, xP_min2, xR_eql, xR_neq, Nat.zero_add, Nat.add_zero, Nat.reduceAdd, List.getD_cons_zero, List.getD_cons_succ, xIf_true, xIf_false, FA_25_0, FA_39_0, FA_41_0, FA_41_1, FA_41_2, FA_56_0, FA_56_1, FA_56_2, FA_56_3, FA_56_4, FA_56_5, FA_72_0, FA_79_0, FA_79_1, FA_93_0, FA_93_1, FA_93_2, FA_102_2, FA_123_0, FA_123_1, FA_123_2, FA_123_3, FA_123_4, FA_131_0, FA_131_1, FA_131_2, LEN_35, LEN_45, LEN_49, LEN_53, LEN_54, LEN_57, LEN_86, LEN_88, LEN_147, xIf_dec]
  unfold dedNote
  refine ⟨fun hne => ?_, fun heq => ?_⟩
  · rw [if_neg hne]
    have hd : Kept [] w1 w1.drew := (Kept.refl _ _).drew
    have h2 := h1.kept0 hd
    refine (ld1 ONE_37 (h2.blk.cell (o := 0))).2 ?_
    refine ((ldSn (blk_drew hb1')).2 _).2 ?_
    refine xE_mapUpdate MP_37 h2.map rfl fun w3 hm3 hk3 hz3 => ?_
    exact ⟨⟨h2.blk.kept hk3 (by simp; exact h.ne), hm3, h.ne⟩, (hk1.drew.mono (by simp)).then hk3 (by simp)⟩
  · rw [if_pos (by omega)]
    exact ⟨h1, hk1.mono (by simp)⟩
theorem ask_ok {d r : Nat} {m : List (Int × Sn)} {p s : Int} {w : World} (h : Ded w d r m) : Gives Tryd.prog 12 #[.pointer (some ⟨d, 0, none⟩), .int .i64 p, .int .i64 s] w fun u w' =>
    u = .tuple #[vSn (dedAsk m p s).1, .bool (dedAsk m p s).2.1, optV (dedAsk m p s).2.2] ∧ Kept [] w w' := by
  refine C_dedup_Dedup_Ask ?_
  unfold S_dedup_Dedup_Ask
  refine xE_alloc Z_25 fun w1 hb1 hk1 hz1 => ?_
  have hb1' : Blk w1 w.heap.size 25 (encSn snZ) := hb1
  have h1 := h.kept0 hk1
  generalize eB : w.heap.size = B at *
  have b0 : Tryd.prog.built 25 (#[] : Array (Nat × Value)).toList = some (encSn snZ).toArray := by kernel_rfl
  -- the ways out
  have out : ∀ (x : Sn) (b : Bool) (e : Option Er) (w' : World), Kept [] w w' → Blk w' B 25 (encSn snZ) → dedAsk m p s = (x, b, e) →
      xE Tryd.prog (sStore 25 (.pointer (some ⟨B, 0, none⟩)) (vSn x)) w' fun _ w5 => xR Tryd.prog (sLoad 25 (.pointer (some ⟨B, 0, none⟩))) w5 fun r6 =>
        Ret (fun u w' => u = .tuple #[vSn (dedAsk m p s).1, .bool (dedAsk m p s).2.1, optV (dedAsk m p s).2.2] ∧ Kept [] w w') (.returned (.tuple #[r6, .bool b, optV e])) w5 := by
    intro x b e w' hk' hb' he
    refine xE_storeN (l1 := []) (l2 := encSn snZ) (l3 := []) SZ_25 hb' rfl rfl rfl (encSn_one x) fun w5 hb5 hk5 hz5 => ?_
    refine ((ldSn (x := x) (by simpa [vSn, Value.cells] using hb5)).2 _).2 ?_
    rw [he]
    exact ⟨rfl, hk'.then hk5 (by simp; omega)⟩
  simp only [xP_nil, xP_pick, xP_func, xP_not, xP_add, xP_sub, xP_mul, xP_lss, xP_leq, xP_gtr, xP_geq, xP_max2, xP_min2, xR_eql, xR_neq, Nat.zero_add, Nat.add_zero, Nat.reduceAdd, List.getD_cons_zero, List.getD_cons_succ, xIf_true, xIf_false, FA_25_0, FA_39_0, FA_41_0, FA_41_1, FA_41_2, FA_56_0, FA_56_1, FA_56_2, FA_56_3, FA_56_4, FA_56_5, FA_72_0, FA_79_0, FA_79_1, FA_93_0, FA_93_1, FA_93_2, FA_102_2, FA_123_0, FA_123_1, FA_123_2, FA_123_3, FA_123_4, FA_131_0, FA_131_1, FA_131_2, LEN_35, LEN_45, LEN_49, LEN_53, LEN_54, LEN_57, LEN_86, LEN_88, LEN_147, xIf_dec]
  refine ⟨fun h0 => ?_, fun h0 => ?_⟩
  · refine (xP_build b0).2 ?_
    subst h0
    exact out snZ false none w1 hk1 hb1' ask_zero
  · refine xJoin_of (fun vs w' => vs = [.bool (decide (p < 0 ∨ 1048576 < p ∨ s < 0 ∨ 1099511627776 < s))] ∧ w1 = w') ?_ ?_
    · simp only [xIf_dec]
      refine ⟨fun a => ⟨by simp [a], trivial⟩, fun a => ⟨fun b => ⟨by simp [b], trivial⟩, fun b => ⟨fun c => ⟨by simp [c], trivial⟩, fun c => ⟨by simp [a, b, c], trivial⟩⟩⟩⟩
    rintro _ _ _ ⟨rfl, rfl⟩
    simp only [xP_nil, xP_pick, xP_func, xP_not, xP_add, xP_sub, xP_mul, xP_lss, xP_leq, xP_gtr, xP_geq, xP_max2, xP_min2, xR_eql, xR_neq, Nat.zero_add, Nat.add_zero, Nat.reduceAdd, List.getD_cons_zero, List.getD_cons_succ, xIf_true, xIf_false, FA_25_0, FA_39_0, FA_41_0, FA_41_1, FA_41_2, FA_56_0, FA_56_1, FA_56_2, FA_56_3, FA_56_4, FA_56_5, FA_72_0, FA_79_0, FA_79_1, FA_93_0, FA_93_1, FA_93_2, FA_102_2, FA_123_0, FA_123_1, FA_123_2, FA_123_3, FA_123_4, FA_131_0, FA_131_1, FA_131_2, LEN_35, LEN_45, LEN_49, LEN_53, LEN_54, LEN_57, LEN_86, LEN_88, LEN_147, xIf_dec]
    refine ⟨fun hbad => ?_, fun hgood => ?_⟩
    · refine (xP_build b0).2 ?_
      simp only [xP_iface CEN]
      refine xE_call CF_32 wrap_ok ?_
      rintro _ _ ⟨rfl, rfl⟩
      exact out snZ false (some (.flt opDA p (.no 1))) w1 hk1 hb1' (ask_bad h0 hbad)
    · have hfine : dedFine p s := by unfold dedFine; omega
      refine (ld1 ONE_37 (h1.blk.cell (o := 0))).2 ?_
      refine (xR_lookupOk MP_37 h1.map (z := vSn snZ) Z_25).2 ?_
      refine (xP_extract (v := ((mget m p).map vSn).getD (vSn snZ)) rfl).2 ?_
      refine (xP_extract (v := .bool (mget m p).isSome) rfl).2 ?_
      cases hm : mget m p with
      | none =>
        refine newSn (x := snZ) fun w2 hb2 hk2 => ?_
        have hk02 := hk1.then hk2 (by simp)
        have hb12 := hb1'.kept hk2 (by simp)
        simp only [Option.isSome_none]
        refine xJoin_one ?_
        simp only [xP_nil, xP_pick, xP_func, xP_not, xP_add, xP_sub, xP_mul, xP_lss, xP_leq, xP_gtr, xP_geq, xP_max2, xP_min2, xR_eql, xR_neq, Nat.zero_add, Nat.add_zero, Nat.reduceAdd, List.getD_cons_zero, List.getD_cons_succ, xIf_true, xIf_false, FA_25_0, FA_39_0, FA_41_0, FA_41_1, FA_41_2, FA_56_0, FA_56_1, FA_56_2, FA_56_3, FA_56_4, FA_56_5, FA_72_0, FA_79_0, FA_79_1, FA_93_0, FA_93_1, FA_93_2, FA_102_2, FA_123_0, FA_123_1, FA_123_2, FA_123_3, FA_123_4, FA_131_0, FA_131_1, FA_131_2, LEN_35, LEN_45, LEN_49, LEN_53, LEN_54, LEN_57, LEN_86, LEN_88, LEN_147]
        intro _
        refine xJoin_one ?_
        simp only [xP_nil, xP_pick, xP_func, xP_not, xP_add, xP_sub, xP_mul, xP_lss, xP_leq, xP_gtr, xP_geq, xP_max2, xP_min2, xR_eql, xR_neq, Nat.zero_add, Nat.add_zero, Nat.reduceAdd, List.getD_cons_zero, List.getD_cons_succ, xIf_true, xIf_false, FA_25_0, FA_39_0, FA_41_0, FA_41_1, FA_41_2, FA_56_0, FA_56_1, FA_56_2, FA_56_3, FA_56_4, FA_56_5, FA_72_0, FA_79_0, FA_79_1, FA_93_0, FA_93_1, FA_93_2, FA_102_2, FA_123_0, FA_123_1, FA_123_2, FA_123_3, FA_123_4, FA_131_0, FA_131_1, FA_131_2, LEN_35, LEN_45, LEN_49, LEN_53, LEN_54, LEN_57, LEN_86, LEN_88, LEN_147]
        intro _
        simp only [xP_nil, xP_pick, xP_func, xP_not, xP_add, xP_sub, xP_mul, xP_lss, xP_leq, xP_gtr, xP_geq, xP_max2, xP_min2, xR_eql, xR_neq, Nat.zero_add, Nat.add_zero, Nat.reduceAdd, List.getD_cons_zero, List.getD_cons_succ, xIf_true, xIf_false, FA_25_0, FA_39_0, FA_41_0, FA_41_1, FA_41_2, FA_56_0, FA_56_1, FA_56_2, FA_56_3, FA_56_4, FA_56_5, FA_72_0, FA_79_0, FA_79_1, FA_93_0, FA_93_1, FA_93_2, FA_102_2, FA_123_0, FA_123_1, FA_123_2, FA_123_3, FA_123_4, FA_131_0, FA_131_1, FA_131_2, LEN_35, LEN_45, LEN_49, LEN_53, LEN_54, LEN_57, LEN_86, LEN_88, LEN_147, xIf_dec]
        have ha := ask_none hfine hm
        refine ⟨fun hz => ?_, fun hz => ?_⟩
        · refine (xP_build b0).2 ?_
          rw [if_pos hz] at ha
          exact out snZ false none w2 hk02 hb12 ha
        · refine (xP_build b0).2 ?_
          simp only [xP_iface CEN]
          refine xE_call CF_32 wrap_ok ?_
          rintro _ _ ⟨rfl, rfl⟩
          rw [if_neg hz] at ha
          exact out snZ false (some (.flt opDA p (.no 12))) w2 hk02 hb12 ha
      | some x =>
        refine newSn (x := x) fun w2 hb2 hk2 => ?_
        have hk02 := hk1.then hk2 (by simp)
        have hb12 := hb1'.kept hk2 (by simp)
        obtain ⟨L0, L1⟩ := ldSn hb2
        simp only [Option.isSome_some]
        refine xJoin_one ?_
        simp only [xP_nil, xP_pick, xP_func, xP_not, xP_add, xP_sub, xP_mul, xP_lss, xP_leq, xP_gtr, xP_geq, xP_max2, xP_min2, xR_eql, xR_neq, Nat.zero_add, Nat.add_zero, Nat.reduceAdd, List.getD_cons_zero, List.getD_cons_succ, xIf_true, xIf_false, FA_25_0, FA_39_0, FA_41_0, FA_41_1, FA_41_2, FA_56_0, FA_56_1, FA_56_2, FA_56_3, FA_56_4, FA_56_5, FA_72_0, FA_79_0, FA_79_1, FA_93_0, FA_93_1, FA_93_2, FA_102_2, FA_123_0, FA_123_1, FA_123_2, FA_123_3, FA_123_4, FA_131_0, FA_131_1, FA_131_2, LEN_35, LEN_45, LEN_49, LEN_53, LEN_54, LEN_57, LEN_86, LEN_88, LEN_147, L0]
        intro _
        refine xJoin_one ?_
        simp only [xP_nil, xP_pick, xP_func, xP_not, xP_add, xP_sub, xP_mul, xP_lss, xP_leq, xP_gtr, xP_geq, xP_max2, xP_min2, xR_eql, xR_neq, Nat.zero_add, Nat.add_zero, Nat.reduceAdd, List.getD_cons_zero, List.getD_cons_succ, xIf_true, xIf_false, FA_25_0, FA_39_0, FA_41_0, FA_41_1, FA_41_2, FA_56_0, FA_56_1, FA_56_2, FA_56_3, FA_56_4, FA_56_5, FA_72_0, FA_79_0, FA_79_1, FA_93_0, FA_93_1, FA_93_2, FA_102_2, FA_123_0, FA_123_1, FA_123_2, FA_123_3, FA_123_4, FA_131_0, FA_131_1, FA_131_2, LEN_35, LEN_45, LEN_49, LEN_53, LEN_54, LEN_57, LEN_86, LEN_88, LEN_147, L0]
        intro _
        simp only [xP_nil, xP_pick, xP_func, xP_not, xP_add, xP_sub, xP_mul, xP_lss, xP_leq, xP_gtr, xP_geq, xP_max2, xP_min2, xR_eql, xR_neq, Nat.zero_add, Nat.add_zero, Nat.reduceAdd, List.getD_cons_zero, List.getD_cons_succ, xIf_true, xIf_false, FA_25_0, FA_39_0, FA_41_0, FA_41_1, FA_41_2, FA_56_0, FA_56_1, FA_56_2, FA_56_3, FA_56_4, FA_56_5, FA_72_0, FA_79_0, FA_79_1, FA_93_0, FA_93_1, FA_93_2, FA_102_2, FA_123_0, FA_123_1, FA_123_2, FA_123_3, FA_123_4, FA_131_0, FA_131_1, FA_131_2, LEN_35, LEN_45, LEN_49, LEN_53, LEN_54, LEN_57, LEN_86, LEN_88, LEN_147, xIf_dec]
        have ha := ask_some hfine hm
        refine ⟨fun hz => ?_, fun hz => ⟨fun hz2 => ?_, fun hz2 => ?_⟩⟩
        · simp only [L1]
          rw [if_pos hz] at ha
          exact out x true none w2 hk02 hb12 ha
        · refine (xP_build b0).2 ?_
          rw [if_neg hz, if_pos hz2] at ha
          exact out snZ false none w2 hk02 hb12 ha
        · refine (xP_build b0).2 ?_
          simp only [xP_iface CEN]
          refine xE_call CF_32 wrap_ok ?_
          rintro _ _ ⟨rfl, rfl⟩
          rw [if_neg hz, if_neg hz2] at ha
          exact out snZ false (some (.flt opDA p (.no 12))) w2 hk02 hb12 ha
end Go.Proofs.YtbfaglbfpmnnmaaDoor
