import Derived.Test.YtbfaglbfpmnnmaaDoorXdDedup1
namespace Go.Proofs.YtbfaglbfpmnnmaaDoor
set_option linter.unusedSimpArgs false
set_option linter.unusedVariables false
set_option maxRecDepth 100000
attribute [local irreducible] Go.X.xE
open Go Go.X Go.RowKit

/-- Ask, and its answer put into variables. -/
theorem askS {d r : Nat} {m : List (Int × Sn)} {p s : Int} {w : World} {K : Value → Value → Value → World → Prop} (h : Ded w d r m)
    (k : ∀ b w', Blk w' b 25 (encSn (dedAsk m p s).1) → Kept [] w w' → w.heap.size ≤ b → K (.pointer (some ⟨b, 0, none⟩)) (.bool (dedAsk m p s).2.1) (optV (dedAsk m p s).2.2) w') :
    xE Tryd.prog (sCall 12 #[.pointer (some ⟨d, 0, none⟩), .int .i64 p, .int .i64 s]) w fun v w16 =>
      xP Tryd.prog (sExtract v 0) fun v29 => xP Tryd.prog (sExtract v 1) fun v30 => xP Tryd.prog (sExtract v 2) fun v31 =>
      xE Tryd.prog (sAlloc 25) w16 fun v5 w21 => xE Tryd.prog (sStore 25 v5 v29) w21 fun _ w22 => K v5 v30 v31 w22 := by
  refine xE_call CF_12 (ask_ok h) ?_
  rintro _ w1 ⟨rfl, hk1⟩
  refine (xP_extract rfl).2 ?_
  refine (xP_extract rfl).2 ?_
  refine (xP_extract rfl).2 ?_
  refine newSn fun w2 hb2 hk2 => ?_
  exact k _ w2 hb2 (hk1.then hk2 (by simp)) hk1.size
theorem noteS {d r : Nat} {m : List (Int × Sn)} {p : Int} {s : Sn} {w : World} {K : Value → World → Prop} (h : Ded w d r m) (k : ∀ u w', Ded w' d r (dedNote m p s) → Kept [r] w w' → K u w') :
    xE Tryd.prog (sCall 13 #[.pointer (some ⟨d, 0, none⟩), .int .i64 p, vSn s]) w K :=
  xE_call CF_13 (note_ok h) (fun u w' ⟨h1, h2⟩ => k u w' h1 h2)
theorem newS {w : World} {K : Value → World → Prop} (k : ∀ d r w', Ded w' d r [] → w.heap.size ≤ d → w.heap.size ≤ r → Kept [] w w' → K (.pointer (some ⟨d, 0, none⟩)) w') : xE Tryd.prog (sCall 11 #[]) w K :=
  xE_call CF_11 new_ok (fun u w' ⟨d, r, h1, h2, h3, h4, h5⟩ => by subst h1; exact k d r w' h2 h3 h4 h5)
theorem notNil {d : Nat} {w : World} {K : Value → Prop} : xR Tryd.prog (sEq .eql 22 true (.pointer (some ⟨d, 0, none⟩)) (.pointer none)) w K ↔ K (.bool false) := xR_pnil PT_22
theorem optV_eql {e : Option Er} {w : World} {K : Value → Prop} : xR Tryd.prog (sEq .eql 27 true (optV e) .nilIface) w K ↔ K (.bool e.isNone) := by
  cases e with
  | none => exact xR_eqlN IFE
  | some e => exact erV_eql
theorem optV_neq {e : Option Er} {w : World} {K : Value → Prop} : xR Tryd.prog (sEq .neq 27 true (optV e) .nilIface) w K ↔ K (.bool e.isSome) := by
  cases e with
  | none => exact xR_neqN IFE
  | some e => exact erV_neq
def optKind : Option Er → Int
  | none => 0
  | some e => e.kind
theorem kindO_ok {e : Option Er} (hp : ∀ x, e = some x → Er.plain x) {w : World} (hg : Glob w) : Gives Tryd.prog 14 #[optV e] w fun u w' => u = .int .i64 (optKind e) ∧ Kept [] w w' := by
  cases e with
  | none => exact kindNil_ok
  | some e => exact kind_ok (hp e rfl) hg
theorem askPlain {m : List (Int × Sn)} {p s : Int} : ∀ x, (dedAsk m p s).2.2 = some x → Er.plain x := by
  intro x hx
  obtain ⟨k, rfl, _⟩ := dedAsk_plain (x := (dedAsk m p s).1) (b := (dedAsk m p s).2.1) (by rw [← hx])
  exact trivial
theorem kindA {m : List (Int × Sn)} {p s : Int} {w : World} {K : Value → World → Prop} (hg : Glob w) (k : ∀ w', Kept [] w w' → K (.int .i64 (optKind (dedAsk m p s).2.2)) w') : xE Tryd.prog (sCall 14 #[optV (dedAsk m p s).2.2]) w K :=
  xE_call CF_14 (kindO_ok askPlain hg) (fun u w' ⟨h1, h2⟩ => by subst h1; exact k w' h2)

def m1 : List (Int × Sn) := [(7, ⟨0, 40, 2⟩)]

theorem runs_ok {w : World} (hg : Glob w) : Gives Tryd.prog 3 #[] w fun u w' => u = .bool true ∧ Kept [] w w' := by
  refine C_stavelaw18_DedupRuns ?_
  unfold S_stavelaw18_DedupRuns
  refine newS fun d r w1 h1 hd hr hk1 => ?_
  refine notNil.2 ?_
  simp only [xP_nil, xP_pick, xP_func, xP_not, xP_add, xP_sub, xP_mul, xP_lss, xP_leq, xP_gtr, xP_geq, xP_max2, xP_min2, xR_eql, xR_neq, Nat.zero_add, Nat.add_zero, Nat.reduceAdd, List.getD_cons_zero, List.getD_cons_succ, xIf_true, xIf_false, FA_25_0, FA_39_0, FA_41_0, FA_41_1, FA_41_2, FA_56_0, FA_56_1, FA_56_2, FA_56_3, FA_56_4, FA_56_5, FA_72_0, FA_79_0, FA_79_1, FA_93_0, FA_93_1, FA_93_2, FA_102_2, FA_123_0, FA_123_1, FA_123_2, FA_123_3, FA_123_4, FA_131_0, FA_131_1, FA_131_2, LEN_35, LEN_45, LEN_49, LEN_53, LEN_54, LEN_57, LEN_86, LEN_88, LEN_147]
  refine askS h1 fun b1 w2 hb1 hk2 hl1 => ?_
  have h2 := h1.kept0 hk2
  have e1 : dedAsk [] 7 0 = (snZ, false, none) := by kernel_rfl
  rw [e1]
  refine (xP_build (cells := (encSn ⟨0, 40, 2⟩).toArray) (by kernel_rfl)).2 ?_
  refine noteS (s := ⟨0, 40, 2⟩) h2 fun _ w3 h3 hk3 => ?_
  have e2 : dedNote [] 7 ⟨0, 40, 2⟩ = m1 := by kernel_rfl
  rw [e2] at h3
  have k03 : Kept [] w w3 := (hk1.then hk2 (by simp)).then hk3 (by intro k hk; simp at hk; subst hk; exact .inr hr)
  refine askS h3 fun b2 w4 hb2 hk4 hl2 => ?_
  have e3 : dedAsk m1 7 0 = (⟨0, 40, 2⟩, true, none) := by kernel_rfl
  rw [e3] at hb2 ⊢
  refine askS (h3.kept0 hk4) fun b3 w5 hb3 hk5 hl3 => ?_
  have e4 : dedAsk m1 7 1 = (snZ, false, none) := by kernel_rfl
  have e5 : dedAsk m1 7 2 = (snZ, false, some (.flt opDA 7 (.no 12))) := by
    rw [ask_some (x := ⟨0, 40, 2⟩) (by unfold dedFine; omega) (by rfl), if_neg (by decide), if_neg]
    simp only
    rw [wrap64 (by omega) (by omega)]
    decide
  rw [e4]
  have k05 := (k03.then hk4 (by simp)).then hk5 (by simp)
  have h5 := (h3.kept0 hk4).kept0 hk5
  refine xE_call CF_12 (ask_ok h5) ?_
  rintro _ w6 ⟨rfl, hk6⟩
  refine (xP_extract rfl).2 ?_
  refine (xP_extract rfl).2 ?_
  refine (xP_extract rfl).2 ?_
  refine newSn fun w7 hb7 hk7 => ?_
  have k67 := hk6.then hk7 (by simp)
  have k07 := k05.then k67 (by simp)
  refine xP_not.2 ?_
  simp only [xP_nil, xP_pick, xP_func, xP_not, xP_add, xP_sub, xP_mul, xP_lss, xP_leq, xP_gtr, xP_geq, xP_max2, xP_min2, xR_eql, xR_neq, Nat.zero_add, Nat.add_zero, Nat.reduceAdd, List.getD_cons_zero, List.getD_cons_succ, xIf_true, xIf_false, FA_25_0, FA_39_0, FA_41_0, FA_41_1, FA_41_2, FA_56_0, FA_56_1, FA_56_2, FA_56_3, FA_56_4, FA_56_5, FA_72_0, FA_79_0, FA_79_1, FA_93_0, FA_93_1, FA_93_2, FA_102_2, FA_123_0, FA_123_1, FA_123_2, FA_123_3, FA_123_4, FA_131_0, FA_131_1, FA_131_2, LEN_35, LEN_45, LEN_49, LEN_53, LEN_54, LEN_57, LEN_86, LEN_88, LEN_147, Bool.not_false]
  refine optV_eql.2 ?_
  simp only [xP_nil, xP_pick, xP_func, xP_not, xP_add, xP_sub, xP_mul, xP_lss, xP_leq, xP_gtr, xP_geq, xP_max2, xP_min2, xR_eql, xR_neq, Nat.zero_add, Nat.add_zero, Nat.reduceAdd, List.getD_cons_zero, List.getD_cons_succ, xIf_true, xIf_false, FA_25_0, FA_39_0, FA_41_0, FA_41_1, FA_41_2, FA_56_0, FA_56_1, FA_56_2, FA_56_3, FA_56_4, FA_56_5, FA_72_0, FA_79_0, FA_79_1, FA_93_0, FA_93_1, FA_93_2, FA_102_2, FA_123_0, FA_123_1, FA_123_2, FA_123_3, FA_123_4, FA_131_0, FA_131_1, FA_131_2, LEN_35, LEN_45, LEN_49, LEN_53, LEN_54, LEN_57, LEN_86, LEN_88, LEN_147, Option.isNone_none]
  refine optV_eql.2 ?_
  simp only [xP_nil, xP_pick, xP_func, xP_not, xP_add, xP_sub, xP_mul, xP_lss, xP_leq, xP_gtr, xP_geq, xP_max2, xP_min2, xR_eql, xR_neq, Nat.zero_add, Nat.add_zero, Nat.reduceAdd, List.getD_cons_zero, List.getD_cons_succ, xIf_true, xIf_false, FA_25_0, FA_39_0, FA_41_0, FA_41_1, FA_41_2, FA_56_0, FA_56_1, FA_56_2, FA_56_3, FA_56_4, FA_56_5, FA_72_0, FA_79_0, FA_79_1, FA_93_0, FA_93_1, FA_93_2, FA_102_2, FA_123_0, FA_123_1, FA_123_2, FA_123_3, FA_123_4, FA_131_0, FA_131_1, FA_131_2, LEN_35, LEN_45, LEN_49, LEN_53, LEN_54, LEN_57, LEN_86, LEN_88, LEN_147, Option.isNone_none]
  refine ((ldSn (((hb2.kept hk5 (by simp)).kept k67 (by simp)))).2 _).2 ?_
  refine (xP_build (cells := (encSn ⟨0, 40, 2⟩).toArray) (by kernel_rfl)).2 ?_
  refine eqSn.2 ?_
  simp only [xP_nil, xP_pick, xP_func, xP_not, xP_add, xP_sub, xP_mul, xP_lss, xP_leq, xP_gtr, xP_geq, xP_max2, xP_min2, xR_eql, xR_neq, Nat.zero_add, Nat.add_zero, Nat.reduceAdd, List.getD_cons_zero, List.getD_cons_succ, xIf_true, xIf_false, FA_25_0, FA_39_0, FA_41_0, FA_41_1, FA_41_2, FA_56_0, FA_56_1, FA_56_2, FA_56_3, FA_56_4, FA_56_5, FA_72_0, FA_79_0, FA_79_1, FA_93_0, FA_93_1, FA_93_2, FA_102_2, FA_123_0, FA_123_1, FA_123_2, FA_123_3, FA_123_4, FA_131_0, FA_131_1, FA_131_2, LEN_35, LEN_45, LEN_49, LEN_53, LEN_54, LEN_57, LEN_86, LEN_88, LEN_147, decide_true, Bool.not_false]
  refine optV_eql.2 ?_
  simp only [xP_nil, xP_pick, xP_func, xP_not, xP_add, xP_sub, xP_mul, xP_lss, xP_leq, xP_gtr, xP_geq, xP_max2, xP_min2, xR_eql, xR_neq, Nat.zero_add, Nat.add_zero, Nat.reduceAdd, List.getD_cons_zero, List.getD_cons_succ, xIf_true, xIf_false, FA_25_0, FA_39_0, FA_41_0, FA_41_1, FA_41_2, FA_56_0, FA_56_1, FA_56_2, FA_56_3, FA_56_4, FA_56_5, FA_72_0, FA_79_0, FA_79_1, FA_93_0, FA_93_1, FA_93_2, FA_102_2, FA_123_0, FA_123_1, FA_123_2, FA_123_3, FA_123_4, FA_131_0, FA_131_1, FA_131_2, LEN_35, LEN_45, LEN_49, LEN_53, LEN_54, LEN_57, LEN_86, LEN_88, LEN_147, Option.isNone_none]
  rw [e5]
  refine xE_call CF_14 (kind_ok (e := .flt opDA 7 (.no 12)) trivial (hg.kept0 k07)) ?_
  rintro _ w8 ⟨rfl, hk8⟩
  simp only [xP_nil, xP_pick, xP_func, xP_not, xP_add, xP_sub, xP_mul, xP_lss, xP_leq, xP_gtr, xP_geq, xP_max2, xP_min2, xR_eql, xR_neq, Nat.zero_add, Nat.add_zero, Nat.reduceAdd, List.getD_cons_zero, List.getD_cons_succ, xIf_true, xIf_false, FA_25_0, FA_39_0, FA_41_0, FA_41_1, FA_41_2, FA_56_0, FA_56_1, FA_56_2, FA_56_3, FA_56_4, FA_56_5, FA_72_0, FA_79_0, FA_79_1, FA_93_0, FA_93_1, FA_93_2, FA_102_2, FA_123_0, FA_123_1, FA_123_2, FA_123_3, FA_123_4, FA_131_0, FA_131_1, FA_131_2, LEN_35, LEN_45, LEN_49, LEN_53, LEN_54, LEN_57, LEN_86, LEN_88, LEN_147, Er.kind, decide_true]
  refine xE_call CF_15 (len_ok ((h5.kept0 k67).kept0 hk8)) ?_
  rintro _ _ ⟨rfl, rfl⟩
  simp only [xP_nil, xP_pick, xP_func, xP_not, xP_add, xP_sub, xP_mul, xP_lss, xP_leq, xP_gtr, xP_geq, xP_max2, xP_min2, xR_eql, xR_neq, Nat.zero_add, Nat.add_zero, Nat.reduceAdd, List.getD_cons_zero, List.getD_cons_succ, xIf_true, xIf_false, FA_25_0, FA_39_0, FA_41_0, FA_41_1, FA_41_2, FA_56_0, FA_56_1, FA_56_2, FA_56_3, FA_56_4, FA_56_5, FA_72_0, FA_79_0, FA_79_1, FA_93_0, FA_93_1, FA_93_2, FA_102_2, FA_123_0, FA_123_1, FA_123_2, FA_123_3, FA_123_4, FA_131_0, FA_131_1, FA_131_2, LEN_35, LEN_45, LEN_49, LEN_53, LEN_54, LEN_57, LEN_86, LEN_88, LEN_147]
  exact ⟨rfl, k07.then hk8 (by simp)⟩
end Go.Proofs.YtbfaglbfpmnnmaaDoor
