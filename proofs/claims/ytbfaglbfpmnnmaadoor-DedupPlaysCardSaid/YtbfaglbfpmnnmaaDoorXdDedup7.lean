import Derived.Test.YtbfaglbfpmnnmaaDoorXdDedup5
namespace Go.Proofs.YtbfaglbfpmnnmaaDoor
set_option linter.unusedSimpArgs false
set_option linter.unusedVariables false
set_option maxRecDepth 100000
attribute [local irreducible] Go.X.xE
open Go Go.X Go.RowKit

/-! ## DedupPlays -/
theorem raskS {d r : Nat} {m : List (Int × Sn)} {p s : Int} {w : World} {K : Value → Value → Value → World → Prop} (h : RDed w d r m)
    (k : ∀ b w', Blk w' b 25 (encSn (dedAsk m p s).1) → Kept [] w w' → w.heap.size ≤ b → K (.pointer (some ⟨b, 0, none⟩)) (.int .i64 (if (dedAsk m p s).2.1 then 1 else 0)) (.int .i64 (optKind (dedAsk m p s).2.2)) w') :
    xE Tryd.prog (sCall 18 #[.pointer (some ⟨d, 0, none⟩), .int .i64 p, .int .i64 s]) w fun v w16 =>
      xP Tryd.prog (sExtract v 0) fun v29 => xP Tryd.prog (sExtract v 1) fun v30 => xP Tryd.prog (sExtract v 2) fun v31 =>
      xE Tryd.prog (sAlloc 25) w16 fun v5 w21 => xE Tryd.prog (sStore 25 v5 v29) w21 fun _ w22 => K v5 v30 v31 w22 := by
  refine xE_call CF_18 (rask_ok h) ?_
  rintro _ w1 ⟨rfl, hk1⟩
  refine (xP_extract rfl).2 ?_
  refine (xP_extract rfl).2 ?_
  refine (xP_extract rfl).2 ?_
  refine newSn fun w2 hb2 hk2 => ?_
  exact k _ w2 hb2 (hk1.then hk2 (by simp)) hk1.size
def encPr (x : Int × Int) : List Value := [.int .i64 x.1, .int .i64 x.2]
theorem encPr_len (x : Int × Int) : (encPr x).length = 2 := rfl
theorem encPr_one (x : Int × Int) : ∀ u ∈ encPr x, u.oneCell' = true := by intro u hu; simp [encPr] at hu; rcases hu with rfl | rfl <;> rfl
theorem rowPr : RowB Tryd.prog 45 44 2 encPr fun x => .agg (encPr x).toArray := RowB.agg SL_45 SZ_44 encPr_len AGG_44
theorem ARP : arrB Tryd.prog 44 3 2 := by unfold arrB; kernel_rfl
theorem bPr {a b : Int} : Tryd.prog.built 44 #[(0, Value.int .i64 a), (1, .int .i64 b)].toList = some (encPr (a, b)).toArray := by kernel_rfl
theorem b12Sn {a b : Int} : Tryd.prog.built 25 #[(1, Value.int .i64 a), (2, .int .i64 b)].toList = some (encSn ⟨0, a, b⟩).toArray := by kernel_rfl
theorem getSn (m : List (Int × Sn)) (p : Int) : ((mget m p).map vSn).getD (vSn snZ) = vSn ((mget m p).getD snZ) := by cases mget m p <;> rfl
theorem seqOf {x : Sn} {K : Value → Prop} : xP Tryd.prog (sField 25 (vSn x) 0) K ↔ K (.int .i64 x.seq) := xP_field FO_25_0 rfl
theorem lookSn {r : Nat} {m : List (Int × Sn)} {p : Int} {w : World} {K : Value → Prop} (h : MapOf w r vSn m) : xR Tryd.prog (sLookup 37 (.map (some r)) (.int .i64 p) false) w K ↔ K (vSn ((mget m p).getD snZ)) := by
  rw [xR_lookup MP_37 h (z := vSn snZ) Z_25, getSn]
theorem stillSn {r : Nat} {m : List (Int × Sn)} {p : Int} {w : World} {B : Prop} (h : MapOf w r vSn m) : xStill Tryd.prog (sLookup 37 (.map (some r)) (.int .i64 p) false) (vSn ((mget m p).getD snZ)) w B ↔ B := by
  have := xStill_lookup (A := B) (k := p) MP_37 h (z := vSn snZ) Z_25
  rwa [getSn] at this
theorem again1 (b : Bool) : decide ((if b = true then (1 : Int) else 0) = 1) = b := by cases b <;> rfl

theorem plays_ok {l : List DAsk} {v0 : Value} {w : World} (hg : Glob w) (hsl : SlT w encDA v0 l) : Gives Tryd.prog 4 #[v0] w fun u w' => u = .bool true ∧ Kept [] w w' := by
  refine C_stavelaw18_DedupPlays ?_
  unfold S_stavelaw18_DedupPlays
  refine newS fun d r w1 h1 hd hr hk1 => ?_
  refine xE_makeMap (val := vSn) MP_37 (.inl rfl) fun w2 hm2 hk2 hz2 => ?_
  have hlt1 := h1.blk.lt
  have hlt2 := h1.map.lt
  have hsz1 := hk1.size
  generalize hq : w1.heap.size = q at *
  refine (xP_build (cells := #[.map (some q)]) (by kernel_rfl)).2 ?_
  refine xE_box fun w3 hb3 hk3 hz3 => ?_
  generalize he : w2.heap.size = e at *
  refine notNil.2 ?_
  try simp only [xP_nil, xP_pick, xP_func, xP_not, xP_add, xP_sub, xP_mul, xP_lss, xP_leq, xP_gtr, xP_geq, xP_max2, xP_min2, xR_eql, xR_neq, Nat.zero_add, Nat.add_zero, Nat.reduceAdd, List.getD_cons_zero, List.getD_cons_succ, xIf_true, xIf_false, FA_25_0, FA_39_0, FA_41_0, FA_41_1, FA_41_2, FA_56_0, FA_56_1, FA_56_2, FA_56_3, FA_56_4, FA_56_5, FA_72_0, FA_79_0, FA_79_1, FA_93_0, FA_93_1, FA_93_2, FA_102_2, FA_123_0, FA_123_1, FA_123_2, FA_123_3, FA_123_4, FA_131_0, FA_131_1, FA_131_2, LEN_35, LEN_45, LEN_49, LEN_53, LEN_54, LEN_57, LEN_86, LEN_88, LEN_147]
  have hR3 : RDed w3 e q [] := ⟨hb3, hm2.kept hk3 (by simp), by omega⟩
  have h3 : Ded w3 d r [] := (h1.kept0 hk2).kept0 hk3
  have hk03 := (hk1.then hk2 (by simp)).then hk3 (by simp)
  obtain ⟨a, c, rfl, hc, hrow⟩ := hsl
  have hsl : SlT w encDA (.slice a l.length c) l := ⟨a, c, rfl, hc, hrow⟩
  have hrw : ∀ k ∈ [r], k ∈ ([] : List Nat) ∨ w.heap.size ≤ k := by intro k hk; simp at hk; subst hk; exact .inr hr
  have hqw : ∀ k ∈ [q], k ∈ ([] : List Nat) ∨ w.heap.size ≤ k := by intro k hk; simp at hk; subst hk; exact .inr (by omega)
  refine xLoop_of (fun vs w' => ∃ (i : Nat) (m : List (Int × Sn)), vs = [.int .i64 i] ∧ i ≤ 50 ∧ Ded w' d r m ∧ RDed w' e q m ∧ Kept [] w w')
    (fun vs _ => match vs with | [.int _ i] => 50 - i.toNat | _ => 0) ⟨0, [], rfl, by omega, h3, hR3, hk03⟩ ?_
  rintro _ _ w4 ⟨i, m, rfl, hi, h4, hR4, hk4⟩
  refine xTest2 SL_35 (fun hlt h50 => ?_) (fun hge => ?_)
  · intro _
    simp only [xIf_true, List.getD_cons_zero]
    refine (rowDA.get hsl hk4 hlt).2 ?_
    generalize l[i] = x
    refine xE_alloc Z_41 fun w5 hb5 hk5 hz5 => ?_
    refine xE_storeN (l1 := []) (l2 := encDA ⟨0, 0, 0⟩) (l3 := []) SZ_41 hb5 rfl rfl rfl (encDA_one x) fun w6 hb6 hk6 hz6 => ?_
    have hk46 : Kept [] w4 w6 := hk5.trans hk6 (by simp) (by simp)
    have hlt4 := h4.blk.lt
    have hlt4' := h4.map.lt
    have hRlt4 := hR4.blk.lt
    have hRlt4' := hR4.map.lt
    have hsz4 := hk4.size
    generalize hB : w4.heap.size = B at *
    have hb6 : Blk w6 B 41 (encDA x) := by simpa [Value.cells] using hb6
    have h6 := h4.kept0 hk46
    have hR6 := hR4.kept0 hk46
    have hk06 := hk4.then hk46 (by simp)
    try simp only [xP_nil, xP_pick, xP_func, xP_not, xP_add, xP_sub, xP_mul, xP_lss, xP_leq, xP_gtr, xP_geq, xP_max2, xP_min2, xR_eql, xR_neq, Nat.zero_add, Nat.add_zero, Nat.reduceAdd, List.getD_cons_zero, List.getD_cons_succ, xIf_true, xIf_false, FA_25_0, FA_39_0, FA_41_0, FA_41_1, FA_41_2, FA_56_0, FA_56_1, FA_56_2, FA_56_3, FA_56_4, FA_56_5, FA_72_0, FA_79_0, FA_79_1, FA_93_0, FA_93_1, FA_93_2, FA_102_2, FA_123_0, FA_123_1, FA_123_2, FA_123_3, FA_123_4, FA_131_0, FA_131_1, FA_131_2, LEN_35, LEN_45, LEN_49, LEN_53, LEN_54, LEN_57, LEN_86, LEN_88, LEN_147]
    refine (ld1 ONE_3 (v := .int .i64 x.p) (hb6.cell (o := 1))).2 ?_
    refine xE_call CF_16 (within_ok (by omega) (by omega) (by omega)) ?_
    rintro _ _ ⟨rfl, rfl⟩
    have hpp := within_bd (n := x.p) (lo := 1) (hi := 3) (by omega)
    generalize within x.p 1 3 = p at *
    refine xJoin_of (fun vs w' => ∃ m', Ded w' d r m' ∧ RDed w' e q m' ∧ Blk w' B 41 (encDA x) ∧ Kept [] w w') ?_ ?_
    · refine (ld1 ONE_3 (v := .int .i64 x.kind) (hb6.cell (o := 0))).2 ?_
      simp only [xR_eql, xIf_dec]
      refine ⟨fun hk2 => ?_, fun hk2 => ⟨fun hk3 => ?_, fun hk3 => ⟨m, h6, hR6, hb6, hk06⟩⟩⟩
      · refine (xP_build b12Sn).2 ?_
        refine newSn (x := ⟨0, i, 1⟩) fun w7 hb7 hk7 => ?_
        have hl6 : B < w6.heap.size := by have := hb6.lt; omega
        have hs46 := hk46.size
        generalize hC : w6.heap.size = C at *
        refine xJoin_of (fun vs w' => ∃ s', Blk w' C 25 (encSn s') ∧ Ded w' d r m ∧ RDed w' e q m ∧ Blk w' B 41 (encDA x) ∧ Kept [] w w') ?_ ?_
        · try simp only [xP_nil, xP_pick, xP_func, xP_not, xP_add, xP_sub, xP_mul, xP_lss, xP_leq, xP_gtr, xP_geq, xP_max2, xP_min2, xR_eql, xR_neq, Nat.zero_add, Nat.add_zero, Nat.reduceAdd, List.getD_cons_zero, List.getD_cons_succ, xIf_true, xIf_false, FA_25_0, FA_39_0, FA_41_0, FA_41_1, FA_41_2, FA_56_0, FA_56_1, FA_56_2, FA_56_3, FA_56_4, FA_56_5, FA_72_0, FA_79_0, FA_79_1, FA_93_0, FA_93_1, FA_93_2, FA_102_2, FA_123_0, FA_123_1, FA_123_2, FA_123_3, FA_123_4, FA_131_0, FA_131_1, FA_131_2, LEN_35, LEN_45, LEN_49, LEN_53, LEN_54, LEN_57, LEN_86, LEN_88, LEN_147]
          have hR7 := hR6.kept0 hk7
          refine (ld1 ONE_37 (hR7.blk.cell (o := 0))).2 ?_
          refine (xR_lookupOk MP_37 hR7.map (z := vSn snZ) Z_25).2 ?_
          rw [getSn]
          refine (xP_extract (v := vSn ((mget m p).getD snZ)) rfl).2 ?_
          refine (xP_extract (v := .bool (mget m p).isSome) rfl).2 ?_
          refine newSn (x := (mget m p).getD snZ) fun w8 hb8 hk8 => ?_
          have hk78 := hk7.then hk8 (by simp)
          have hs7 := hk7.size
          refine xIf_bool.2 ⟨fun hsome => ?_, fun hnone => ⟨_, hb7.kept hk8 (by simp), h6.kept0 hk78, hR6.kept0 hk78, hb6.kept hk78 (by simp), hk06.then hk78 (by simp)⟩⟩
          try simp only [xP_nil, xP_pick, xP_func, xP_not, xP_add, xP_sub, xP_mul, xP_lss, xP_leq, xP_gtr, xP_geq, xP_max2, xP_min2, xR_eql, xR_neq, Nat.zero_add, Nat.add_zero, Nat.reduceAdd, List.getD_cons_zero, List.getD_cons_succ, xIf_true, xIf_false, FA_25_0, FA_39_0, FA_41_0, FA_41_1, FA_41_2, FA_56_0, FA_56_1, FA_56_2, FA_56_3, FA_56_4, FA_56_5, FA_72_0, FA_79_0, FA_79_1, FA_93_0, FA_93_1, FA_93_2, FA_102_2, FA_123_0, FA_123_1, FA_123_2, FA_123_3, FA_123_4, FA_131_0, FA_131_1, FA_131_2, LEN_35, LEN_45, LEN_49, LEN_53, LEN_54, LEN_57, LEN_86, LEN_88, LEN_147]
          refine ((ldSn hb8).1 _).2 ?_
          try simp only [xP_nil, xP_pick, xP_func, xP_not, xP_add, xP_sub, xP_mul, xP_lss, xP_leq, xP_gtr, xP_geq, xP_max2, xP_min2, xR_eql, xR_neq, Nat.zero_add, Nat.add_zero, Nat.reduceAdd, List.getD_cons_zero, List.getD_cons_succ, xIf_true, xIf_false, FA_25_0, FA_39_0, FA_41_0, FA_41_1, FA_41_2, FA_56_0, FA_56_1, FA_56_2, FA_56_3, FA_56_4, FA_56_5, FA_72_0, FA_79_0, FA_79_1, FA_93_0, FA_93_1, FA_93_2, FA_102_2, FA_123_0, FA_123_1, FA_123_2, FA_123_3, FA_123_4, FA_131_0, FA_131_1, FA_131_2, LEN_35, LEN_45, LEN_49, LEN_53, LEN_54, LEN_57, LEN_86, LEN_88, LEN_147]
          refine xE_store1 (l := encSn ⟨0, i, 1⟩) SZ_3 (hb7.kept hk8 (by simp)) (by simp [encSn]) rfl fun w9 hb9 hk9 hz9 => ?_
          refine ⟨⟨IntKind.i64.wrap (((mget m p).getD snZ).seq + 1), i, 1⟩, hb9, (h6.kept0 hk78).kept hk9 (by simp; omega) (by simp; omega), (hR6.kept0 hk78).kept hk9 (by simp; omega) (by simp; omega), (hb6.kept hk78 (by simp)).kept hk9 (by simp; omega), (hk06.then hk78 (by simp)).then hk9 (by simp; omega)⟩
        · rintro _ _ w8 ⟨s', hb8, h8, hR8, hx8, hk8⟩
          refine ((ldSn hb8).2 _).2 ?_
          refine noteS h8 fun _ w9 h9 hk9 => ?_
          refine ((ldSn (hb8.kept hk9 (by simp; omega))).2 _).2 ?_
          refine xE_call CF_17 (rnote_ok (hR8.kept hk9 (by simp; omega) (by simp; omega))) ?_
          rintro _ w10 ⟨hR10, hk10⟩
          exact ⟨_, h9.kept hk10 (by simp; omega) (by simp; omega), hR10, (hx8.kept hk9 (by simp; omega)).kept hk10 (by simp; omega), (hk8.then hk9 hrw).then hk10 hqw⟩
      · try simp only [xP_nil, xP_pick, xP_func, xP_not, xP_add, xP_sub, xP_mul, xP_lss, xP_leq, xP_gtr, xP_geq, xP_max2, xP_min2, xR_eql, xR_neq, Nat.zero_add, Nat.add_zero, Nat.reduceAdd, List.getD_cons_zero, List.getD_cons_succ, xIf_true, xIf_false, FA_25_0, FA_39_0, FA_41_0, FA_41_1, FA_41_2, FA_56_0, FA_56_1, FA_56_2, FA_56_3, FA_56_4, FA_56_5, FA_72_0, FA_79_0, FA_79_1, FA_93_0, FA_93_1, FA_93_2, FA_102_2, FA_123_0, FA_123_1, FA_123_2, FA_123_3, FA_123_4, FA_131_0, FA_131_1, FA_131_2, LEN_35, LEN_45, LEN_49, LEN_53, LEN_54, LEN_57, LEN_86, LEN_88, LEN_147]
        refine (ld1 ONE_3 (v := .int .i64 x.s) (hb6.cell (o := 2))).2 ?_
        refine xE_call CF_16 (within_ok (by omega) (by omega) (by omega)) ?_
        rintro _ _ ⟨rfl, rfl⟩
        refine (xP_build b2Sn).2 ?_
        refine newSn (x := ⟨within x.s 0 1099511627776, i, 0⟩) fun w7 hb7 hk7 => ?_
        have hl6 : B < w6.heap.size := by have := hb6.lt; omega
        have hs46 := hk46.size
        generalize hC : w6.heap.size = C at *
        refine ((ldSn hb7).2 _).2 ?_
        refine noteS (h6.kept0 hk7) fun _ w9 h9 hk9 => ?_
        have hb9 := hb7.kept hk9 (by simp; omega)
        refine ((ldSn hb9).2 _).2 ?_
        refine xE_call CF_17 (rnote_ok ((hR6.kept0 hk7).kept hk9 (by simp; omega) (by simp; omega))) ?_
        rintro _ w10 ⟨hR10, hk10⟩
        refine ((ldSn (hb9.kept hk10 (by simp; omega))).2 _).2 ?_
        refine noteS (p := 0) (h9.kept hk10 (by simp; omega) (by simp; omega)) fun _ w11 h11 hk11 => ?_
        exact ⟨_, h11, hR10.kept hk11 (by simp; omega) (by simp; omega), (((hb6.kept hk7 (by simp)).kept hk9 (by simp; omega)).kept hk10 (by simp; omega)).kept hk11 (by simp; omega), (((hk06.then hk7 (by simp)).then hk9 hrw).then hk10 hqw).then hk11 hrw⟩
    · rintro _ _ w7 ⟨m', h7, hR7, hb7, hk7⟩
      try simp only [xP_nil, xP_pick, xP_func, xP_not, xP_add, xP_sub, xP_mul, xP_lss, xP_leq, xP_gtr, xP_geq, xP_max2, xP_min2, xR_eql, xR_neq, Nat.zero_add, Nat.add_zero, Nat.reduceAdd, List.getD_cons_zero, List.getD_cons_succ, xIf_true, xIf_false, FA_25_0, FA_39_0, FA_41_0, FA_41_1, FA_41_2, FA_56_0, FA_56_1, FA_56_2, FA_56_3, FA_56_4, FA_56_5, FA_72_0, FA_79_0, FA_79_1, FA_93_0, FA_93_1, FA_93_2, FA_102_2, FA_123_0, FA_123_1, FA_123_2, FA_123_3, FA_123_4, FA_131_0, FA_131_1, FA_131_2, LEN_35, LEN_45, LEN_49, LEN_53, LEN_54, LEN_57, LEN_86, LEN_88, LEN_147]
      have hb7' := blk_drew hb7
      have hR7' := hR7.kept0 (kept_drew [] w7)
      refine (ld1 ONE_3 (v := .int .i64 x.p) (hb7'.cell (o := 1))).2 ?_
      refine (ld1 ONE_3 (v := .int .i64 x.s) (hb7'.cell (o := 2))).2 ?_
      refine (xP_build bPr).2 ?_
      refine (ld1 ONE_3 (v := .int .i64 x.s) (hb7'.cell (o := 2))).2 ?_
      refine (ld1 ONE_37 (hR7'.blk.cell (o := 0))).2 ?_
      refine (lookSn hR7'.map).2 ?_
      refine seqOf.2 ?_
      refine (xP_build bPr).2 ?_
      refine (ld1 ONE_37 (hR7'.blk.cell (o := 0))).2 ?_
      refine (lookSn hR7'.map).2 ?_
      refine seqOf.2 ?_
      refine xP_add.2 ?_
      refine (xP_build bPr).2 ?_
      refine xE_call CF_16 (within_ok (by omega) (by omega) (by omega)) ?_
      rintro _ _ ⟨rfl, rfl⟩
      refine (stillSn hR7'.map).2 ?_
      refine (still1 ONE_37 (hR7'.blk.cell (o := 0))).2 ?_
      refine (stillSn hR7'.map).2 ?_
      refine (still1 ONE_37 (hR7'.blk.cell (o := 0))).2 ?_
      refine (still1 ONE_3 (hb7'.cell (o := 2))).2 ?_
      refine (still1 ONE_3 (hb7'.cell (o := 1))).2 ?_
      refine (xP_build bPr).2 ?_
      generalize ((mget m' p).getD snZ).seq = z
      generalize within x.s 0 4 = y
      generalize hpl : [(x.p, x.s), (p, y), (p, z), (p, IntKind.i64.wrap (z + 1))] = pl
      refine xE_buildSlice EL_45 (pl.map fun x => .agg (encPr x).toArray) (by subst hpl; rfl) (by subst hpl; rfl) (by subst hpl; simp [Value.cells, encPr]) (by omega) (by omega) fun w8 hb8 hk8 hz8 => ?_
      have hk78 : Kept [] w7 w8 := (kept_drew [] w7).then hk8 (by simp)
      have hpl4 : pl.length = 4 := by subst hpl; rfl
      have hsp : SlT w8 encPr (.slice (some ⟨w7.heap.size, 0, none⟩) 4 4) pl := by
        have := slT_blk (l := pl) (enc := encPr) (w := w8) (E := 44) (b := w7.heap.size) (by subst hpl; exact hb8)
        rwa [hpl4] at this
      try simp only [xP_nil, xP_pick, xP_func, xP_not, xP_add, xP_sub, xP_mul, xP_lss, xP_leq, xP_gtr, xP_geq, xP_max2, xP_min2, xR_eql, xR_neq, Nat.zero_add, Nat.add_zero, Nat.reduceAdd, List.getD_cons_zero, List.getD_cons_succ, xIf_true, xIf_false, FA_25_0, FA_39_0, FA_41_0, FA_41_1, FA_41_2, FA_56_0, FA_56_1, FA_56_2, FA_56_3, FA_56_4, FA_56_5, FA_72_0, FA_79_0, FA_79_1, FA_93_0, FA_93_1, FA_93_2, FA_102_2, FA_123_0, FA_123_1, FA_123_2, FA_123_3, FA_123_4, FA_131_0, FA_131_1, FA_131_2, LEN_35, LEN_45, LEN_49, LEN_53, LEN_54, LEN_57, LEN_86, LEN_88, LEN_147]
      refine xLoop_of (fun vs w' => ∃ n : Nat, vs = [.int .i64 n] ∧ n ≤ 4 ∧ Kept [] w8 w') (fun vs _ => match vs with | [.int _ i] => 4 - i.toNat | _ => 0) ⟨0, rfl, by omega, Kept.refl _ _⟩ ?_
      rintro _ _ w9 ⟨n, rfl, hn4, hk9⟩
      have h9 := (h7.kept0 hk78).kept0 hk9
      have hR9 := (hR7.kept0 hk78).kept0 hk9
      have hk09 := (hk7.then hk78 (by simp)).then hk9 (by simp)
      simp only [xP_nil, xP_pick, xP_func, xP_not, xP_add, xP_sub, xP_mul, xP_lss, xP_leq, xP_gtr, xP_geq, xP_max2, xP_min2, xR_eql, xR_neq, Nat.zero_add, Nat.add_zero, Nat.reduceAdd, List.getD_cons_zero, List.getD_cons_succ, xIf_true, xIf_false, FA_25_0, FA_39_0, FA_41_0, FA_41_1, FA_41_2, FA_56_0, FA_56_1, FA_56_2, FA_56_3, FA_56_4, FA_56_5, FA_72_0, FA_79_0, FA_79_1, FA_93_0, FA_93_1, FA_93_2, FA_102_2, FA_123_0, FA_123_1, FA_123_2, FA_123_3, FA_123_4, FA_131_0, FA_131_1, FA_131_2, LEN_35, LEN_45, LEN_49, LEN_53, LEN_54, LEN_57, LEN_86, LEN_88, LEN_147, xIf_dec]
      refine ⟨fun hlt4 => ?_, fun hge4 => ?_⟩
      · refine (rowPr.get hsp hk9 (show n < pl.length by omega)).2 ?_
        generalize pl[n]'(by omega) = pr
        refine xE_alloc Z_44 fun w10 hb10 hk10 hz10 => ?_
        refine xE_storeN (l1 := []) (l2 := encPr (0, 0)) (l3 := []) SZ_44 hb10 rfl rfl rfl (encPr_one pr) fun w11 hb11 hk11 hz11 => ?_
        have hb11 : Blk w11 w9.heap.size 44 (encPr pr) := by simpa [Value.cells] using hb11
        have hk911 : Kept [] w9 w11 := hk10.trans hk11 (by simp) (by simp)
        refine (xP_IAarr (i := 0) ARP SZ_3 (by omega)).2 ?_
        refine (ld1 ONE_3 (v := .int .i64 pr.1) (hb11.cell (o := 0))).2 ?_
        refine (xP_IAarr (i := 1) ARP SZ_3 (by omega)).2 ?_
        refine (ld1 ONE_3 (v := .int .i64 pr.2) (hb11.cell (o := 1))).2 ?_
        refine askS (h9.kept0 hk911) fun b12 w12 hb12 hk12 hl12 => ?_
        have hb11' := hb11.kept hk12 (by simp)
        refine (xP_IAarr (i := 0) ARP SZ_3 (by omega)).2 ?_
        refine (ld1 ONE_3 (v := .int .i64 pr.1) (hb11'.cell (o := 0))).2 ?_
        refine (xP_IAarr (i := 1) ARP SZ_3 (by omega)).2 ?_
        refine (ld1 ONE_3 (v := .int .i64 pr.2) (hb11'.cell (o := 1))).2 ?_
        have hk912 := hk911.then hk12 (by simp)
        refine raskS (hR9.kept0 hk912) fun b13 w13 hb13 hk13 hl13 => ?_
        have hk913 := hk912.then hk13 (by simp)
        have hk013 := hk09.then hk913 (by simp)
        refine xJoin_one ?_
        refine ((ldSn (hb12.kept hk13 (by simp))).2 _).2 ?_
        refine ((ldSn hb13).2 _).2 ?_
        refine neSn.2 ?_
        simp only [decide_true, Bool.not_true, xIf_false, xR_eql, again1]
        refine (xR_neqBool BOOL).2 ?_
        simp only [beq_self_eq_true, Bool.not_true, xIf_false]
        refine kindA (hg.kept0 hk013) fun w14 hk14 => ?_
        simp only [xR_neq, ne_eq, not_true_eq_false, decide_false]
        intro _
        try simp only [xP_nil, xP_pick, xP_func, xP_not, xP_add, xP_sub, xP_mul, xP_lss, xP_leq, xP_gtr, xP_geq, xP_max2, xP_min2, xR_eql, xR_neq, Nat.zero_add, Nat.add_zero, Nat.reduceAdd, List.getD_cons_zero, List.getD_cons_succ, xIf_true, xIf_false, FA_25_0, FA_39_0, FA_41_0, FA_41_1, FA_41_2, FA_56_0, FA_56_1, FA_56_2, FA_56_3, FA_56_4, FA_56_5, FA_72_0, FA_79_0, FA_79_1, FA_93_0, FA_93_1, FA_93_2, FA_102_2, FA_123_0, FA_123_1, FA_123_2, FA_123_3, FA_123_4, FA_131_0, FA_131_1, FA_131_2, LEN_35, LEN_45, LEN_49, LEN_53, LEN_54, LEN_57, LEN_86, LEN_88, LEN_147]
        rw [wrap64 (by omega) (by omega)]
        exact ⟨⟨n + 1, rfl, by omega, (hk9.then hk913 (by simp)).then hk14 (by simp)⟩, by omega⟩
      · have hd9 := kept_drew [] w9
        refine (ld1 ONE_37 ((hR9.kept0 hd9).blk.cell (o := 0))).2 ?_
        refine xE_call CF_15 (len_ok (h9.kept0 hd9)) ?_
        rintro _ _ ⟨rfl, rfl⟩
        refine (still1 ONE_37 ((hR9.kept0 hd9).blk.cell (o := 0))).2 ?_
        refine (xR_lenM MP_37 (hR9.kept0 hd9).map).2 ?_
        simp only [xP_nil, xP_pick, xP_func, xP_not, xP_add, xP_sub, xP_mul, xP_lss, xP_leq, xP_gtr, xP_geq, xP_max2, xP_min2, xR_eql, xR_neq, Nat.zero_add, Nat.add_zero, Nat.reduceAdd, List.getD_cons_zero, List.getD_cons_succ, xIf_true, xIf_false, FA_25_0, FA_39_0, FA_41_0, FA_41_1, FA_41_2, FA_56_0, FA_56_1, FA_56_2, FA_56_3, FA_56_4, FA_56_5, FA_72_0, FA_79_0, FA_79_1, FA_93_0, FA_93_1, FA_93_2, FA_102_2, FA_123_0, FA_123_1, FA_123_2, FA_123_3, FA_123_4, FA_131_0, FA_131_1, FA_131_2, LEN_35, LEN_45, LEN_49, LEN_53, LEN_54, LEN_57, LEN_86, LEN_88, LEN_147, ne_eq, not_true_eq_false, decide_false]
        rw [wrap64 (by omega) (by omega)]
        exact ⟨⟨i + 1, m', rfl, by omega, h9.kept0 hd9, hR9.kept0 hd9, hk09.drew⟩, by omega⟩
  · intro _
    simp only [xIf_false, List.getD_cons_zero]
    refine xE_call CF_3 (runs_ok (hg.kept0 hk4)) ?_
    rintro _ w5 ⟨rfl, hk5⟩
    exact ⟨rfl, hk4.then hk5 (by simp)⟩
end Go.Proofs.YtbfaglbfpmnnmaaDoor
