import Derived.Test.YtbfaglbfpmnnmaaDoorXdDedup4
namespace Go.Proofs.YtbfaglbfpmnnmaaDoor
set_option linter.unusedSimpArgs false
set_option linter.unusedVariables false
set_option maxRecDepth 100000
attribute [local irreducible] Go.X.xE
open Go Go.X Go.RowKit

theorem fldP {w w' : World} {K : Value → Prop} {l : List DAsk} {v : Value} {q : IntKind} {i : Nat} (hsl : SlT w encDA v l) (hk : Kept [] w w') (hi : i < l.length) :
    (xP Tryd.prog (sIA 35 v (.int q i)) fun v => xP Tryd.prog (sFA 41 v 1) fun c => xR Tryd.prog (sLoad 3 c) w' K) ↔ K (.int .i64 l[i].p) :=
  rowDA.fld hsl hk hi (off := 1) (by kernel_rfl) ONE_3 rfl
theorem fldS {w w' : World} {K : Value → Prop} {l : List DAsk} {v : Value} {q : IntKind} {i : Nat} (hsl : SlT w encDA v l) (hk : Kept [] w w') (hi : i < l.length) :
    (xP Tryd.prog (sIA 35 v (.int q i)) fun v => xP Tryd.prog (sFA 41 v 2) fun c => xR Tryd.prog (sLoad 3 c) w' K) ↔ K (.int .i64 l[i].s) :=
  rowDA.fld hsl hk hi (off := 2) (by kernel_rfl) ONE_3 rfl
/-! ## DedupTwin -/
def lowM (m : List (Int × Sn)) : Prop := ∀ k x, mget m k = some x → 0 ≤ x.seq ∧ x.seq ≤ 9
theorem lowM_note {m : List (Int × Sn)} {k : Int} {s : Sn} (h : lowM m) (hs : 0 ≤ s.seq ∧ s.seq ≤ 9) : lowM (dedNote m k s) := by
  intro k' x hx
  unfold dedNote at hx
  split at hx
  · exact h k' x hx
  · rw [mget_set] at hx
    split at hx
    · cases hx; exact hs
    · exact h k' x hx
theorem low_ask {m : List (Int × Sn)} {k s : Int} (h : lowM m) (hk : 1 ≤ k ∧ k ≤ 1048576) (hs : 100 ≤ s ∧ s ≤ 200) : (dedAsk m k s).2.1 = false := by
  have hf : dedFine k s := ⟨hk.1, hk.2, by omega, by omega⟩
  cases hm : mget m k with
  | none => rw [ask_none hf hm, if_neg (by omega)]
  | some x =>
    have := h k x hm
    rw [ask_some hf hm, if_neg (by omega), if_neg (by rw [wrap64 (by omega) (by omega)]; omega)]
theorem noted_ask {m : List (Int × Sn)} {k : Int} {s : Sn} (hk : 1 ≤ k ∧ k ≤ 1048576) (hs : 0 ≤ s.seq ∧ s.seq ≤ 1000) : dedAsk (dedNote m k s) k s.seq = (s, true, none) := by
  have hf : dedFine k s.seq := ⟨hk.1, hk.2, by omega, by omega⟩
  have hm : mget (dedNote m k s) k = some s := by
    unfold dedNote
    rw [if_neg (by omega), mget_set, if_pos rfl]
  rw [ask_some hf hm, if_pos rfl]

theorem twinlaw_ok {l : List DAsk} {p s : Int} {v0 : Value} {w : World} (hg : Glob w) (hsl : SlT w encDA v0 l) : Gives Tryd.prog 8 #[v0, .int .i64 p, .int .i64 s] w fun u w' => u = .bool true ∧ Kept [] w w' := by
  refine C_stavelaw18_DedupTwin ?_
  unfold S_stavelaw18_DedupTwin
  refine newS fun d r w1 h1 hd hr hk1 => ?_
  refine notNil.2 ?_
  try simp only [xP_nil, xP_pick, xP_func, xP_not, xP_add, xP_sub, xP_mul, xP_lss, xP_leq, xP_gtr, xP_geq, xP_max2, xP_min2, xR_eql, xR_neq, Nat.zero_add, Nat.add_zero, Nat.reduceAdd, List.getD_cons_zero, List.getD_cons_succ, xIf_true, xIf_false, FA_25_0, FA_39_0, FA_41_0, FA_41_1, FA_41_2, FA_56_0, FA_56_1, FA_56_2, FA_56_3, FA_56_4, FA_56_5, FA_72_0, FA_79_0, FA_79_1, FA_93_0, FA_93_1, FA_93_2, FA_102_2, FA_123_0, FA_123_1, FA_123_2, FA_123_3, FA_123_4, FA_131_0, FA_131_1, FA_131_2, LEN_35, LEN_45, LEN_49, LEN_53, LEN_54, LEN_57, LEN_86, LEN_88, LEN_147]
  obtain ⟨a, c, rfl, hc, hrow⟩ := hsl
  have hsl : SlT w encDA (.slice a l.length c) l := ⟨a, c, rfl, hc, hrow⟩
  have hrw : ∀ k ∈ [r], k ∈ ([] : List Nat) ∨ w.heap.size ≤ k := by intro k hk; simp at hk; subst hk; exact .inr hr
  refine xLoop_of (fun vs w' => ∃ (i : Nat) (m : List (Int × Sn)), vs = [.int .i64 i] ∧ i ≤ 20 ∧ Ded w' d r m ∧ lowM m ∧ Kept [] w w')
    (fun vs _ => match vs with | [.int _ i] => 20 - i.toNat | _ => 0) ⟨0, [], rfl, by omega, h1, fun k x hx => (by cases hx), hk1⟩ ?_
  rintro _ _ w2 ⟨i, m, rfl, hi, h2, hlow, hk2⟩
  refine xTest2 SL_35 (fun hlt h20 => ?_) (fun hge => ?_)
  · intro _
    simp only [xIf_true, List.getD_cons_zero]
    refine (fldP hsl hk2.drew hlt).2 ?_
    refine rowDA.fldA hsl hk2.drew hlt (off := 2) (by kernel_rfl) ONE_3 rfl fun A hA => ?_
    refine xE_call CF_16 (within_ok (by omega) (by omega) (by omega)) ?_
    rintro _ _ ⟨rfl, rfl⟩
    refine (still1 ONE_3 (hA _ hk2.drew)).2 ?_
    refine xE_call CF_16 (within_ok (by omega) (by omega) (by omega)) ?_
    rintro _ _ ⟨rfl, rfl⟩
    have hb := within_bd (n := l[i].s) (lo := 0) (hi := 9) (by omega)
    refine (xP_build b2Sn).2 ?_
    refine noteS (s := ⟨within l[i].s 0 9, i, 0⟩) (h2.kept0 (kept_drew [] w2)) fun _ w3 h3 hk3 => ?_
    try simp only [xP_nil, xP_pick, xP_func, xP_not, xP_add, xP_sub, xP_mul, xP_lss, xP_leq, xP_gtr, xP_geq, xP_max2, xP_min2, xR_eql, xR_neq, Nat.zero_add, Nat.add_zero, Nat.reduceAdd, List.getD_cons_zero, List.getD_cons_succ, xIf_true, xIf_false, FA_25_0, FA_39_0, FA_41_0, FA_41_1, FA_41_2, FA_56_0, FA_56_1, FA_56_2, FA_56_3, FA_56_4, FA_56_5, FA_72_0, FA_79_0, FA_79_1, FA_93_0, FA_93_1, FA_93_2, FA_102_2, FA_123_0, FA_123_1, FA_123_2, FA_123_3, FA_123_4, FA_131_0, FA_131_1, FA_131_2, LEN_35, LEN_45, LEN_49, LEN_53, LEN_54, LEN_57, LEN_86, LEN_88, LEN_147]
    rw [wrap64 (by omega) (by omega)]
    exact ⟨⟨i + 1, _, rfl, by omega, h3, lowM_note hlow hb, hk2.drew.then hk3 hrw⟩, by omega⟩
  · intro _
    simp only [xIf_false, List.getD_cons_zero]
    refine xE_call CF_19 (twin_ok h2) ?_
    rintro _ w3 ⟨t, q, rfl, ht3, hdt, hqt, hk3⟩
    have h3 := h2.kept0 hk3
    have hk03 := hk2.then hk3 (by simp)
    refine xJoin_one ?_
    refine notNil.2 ?_
    try simp only [xP_nil, xP_pick, xP_func, xP_not, xP_add, xP_sub, xP_mul, xP_lss, xP_leq, xP_gtr, xP_geq, xP_max2, xP_min2, xR_eql, xR_neq, Nat.zero_add, Nat.add_zero, Nat.reduceAdd, List.getD_cons_zero, List.getD_cons_succ, xIf_true, xIf_false, FA_25_0, FA_39_0, FA_41_0, FA_41_1, FA_41_2, FA_56_0, FA_56_1, FA_56_2, FA_56_3, FA_56_4, FA_56_5, FA_72_0, FA_79_0, FA_79_1, FA_93_0, FA_93_1, FA_93_2, FA_102_2, FA_123_0, FA_123_1, FA_123_2, FA_123_3, FA_123_4, FA_131_0, FA_131_1, FA_131_2, LEN_35, LEN_45, LEN_49, LEN_53, LEN_54, LEN_57, LEN_86, LEN_88, LEN_147]
    refine xE_call CF_15 (len_ok ht3) ?_
    rintro _ _ ⟨rfl, rfl⟩
    refine xE_call CF_15 (len_ok h3) ?_
    rintro _ _ ⟨rfl, rfl⟩
    try simp only [xP_nil, xP_pick, xP_func, xP_not, xP_add, xP_sub, xP_mul, xP_lss, xP_leq, xP_gtr, xP_geq, xP_max2, xP_min2, xR_eql, xR_neq, Nat.zero_add, Nat.add_zero, Nat.reduceAdd, List.getD_cons_zero, List.getD_cons_succ, xIf_true, xIf_false, FA_25_0, FA_39_0, FA_41_0, FA_41_1, FA_41_2, FA_56_0, FA_56_1, FA_56_2, FA_56_3, FA_56_4, FA_56_5, FA_72_0, FA_79_0, FA_79_1, FA_93_0, FA_93_1, FA_93_2, FA_102_2, FA_123_0, FA_123_1, FA_123_2, FA_123_3, FA_123_4, FA_131_0, FA_131_1, FA_131_2, LEN_35, LEN_45, LEN_49, LEN_53, LEN_54, LEN_57, LEN_86, LEN_88, LEN_147, ne_eq, not_true_eq_false, decide_false]
    intro _
    try simp only [xP_nil, xP_pick, xP_func, xP_not, xP_add, xP_sub, xP_mul, xP_lss, xP_leq, xP_gtr, xP_geq, xP_max2, xP_min2, xR_eql, xR_neq, Nat.zero_add, Nat.add_zero, Nat.reduceAdd, List.getD_cons_zero, List.getD_cons_succ, xIf_true, xIf_false, FA_25_0, FA_39_0, FA_41_0, FA_41_1, FA_41_2, FA_56_0, FA_56_1, FA_56_2, FA_56_3, FA_56_4, FA_56_5, FA_72_0, FA_79_0, FA_79_1, FA_93_0, FA_93_1, FA_93_2, FA_102_2, FA_123_0, FA_123_1, FA_123_2, FA_123_3, FA_123_4, FA_131_0, FA_131_1, FA_131_2, LEN_35, LEN_45, LEN_49, LEN_53, LEN_54, LEN_57, LEN_86, LEN_88, LEN_147]
    refine xE_call CF_16 (within_ok (by omega) (by omega) (by omega)) ?_
    rintro _ _ ⟨rfl, rfl⟩
    have hkk := within_bd (n := p) (lo := 1) (hi := 5) (by omega)
    generalize within p 1 5 = k at *
    refine xLoop_of (fun vs w' => ∃ i : Nat, vs = [.int .i64 i] ∧ 1 ≤ i ∧ i ≤ 6 ∧ Kept [] w3 w') (fun vs _ => match vs with | [.int _ i] => 6 - i.toNat | _ => 0) ⟨1, rfl, by omega, by omega, Kept.refl _ _⟩ ?_
    rintro _ _ w4 ⟨i1, rfl, hi1, hi6, hk4⟩
    try simp only [xP_nil, xP_pick, xP_func, xP_not, xP_add, xP_sub, xP_mul, xP_lss, xP_leq, xP_gtr, xP_geq, xP_max2, xP_min2, xR_eql, xR_neq, Nat.zero_add, Nat.add_zero, Nat.reduceAdd, List.getD_cons_zero, List.getD_cons_succ, xIf_true, xIf_false, FA_25_0, FA_39_0, FA_41_0, FA_41_1, FA_41_2, FA_56_0, FA_56_1, FA_56_2, FA_56_3, FA_56_4, FA_56_5, FA_72_0, FA_79_0, FA_79_1, FA_93_0, FA_93_1, FA_93_2, FA_102_2, FA_123_0, FA_123_1, FA_123_2, FA_123_3, FA_123_4, FA_131_0, FA_131_1, FA_131_2, LEN_35, LEN_45, LEN_49, LEN_53, LEN_54, LEN_57, LEN_86, LEN_88, LEN_147, xIf_dec]
    refine ⟨fun hle => ?_, fun hgt => ?_⟩
    · refine xLoop_of (fun vs w' => ∃ n : Nat, vs = [.int .i64 n] ∧ n ≤ 11 ∧ Kept [] w3 w') (fun vs _ => match vs with | [.int _ i] => 11 - i.toNat | _ => 0) ⟨0, rfl, by omega, hk4⟩ ?_
      rintro _ _ w5 ⟨n, rfl, hn, hk5⟩
      try simp only [xP_nil, xP_pick, xP_func, xP_not, xP_add, xP_sub, xP_mul, xP_lss, xP_leq, xP_gtr, xP_geq, xP_max2, xP_min2, xR_eql, xR_neq, Nat.zero_add, Nat.add_zero, Nat.reduceAdd, List.getD_cons_zero, List.getD_cons_succ, xIf_true, xIf_false, FA_25_0, FA_39_0, FA_41_0, FA_41_1, FA_41_2, FA_56_0, FA_56_1, FA_56_2, FA_56_3, FA_56_4, FA_56_5, FA_72_0, FA_79_0, FA_79_1, FA_93_0, FA_93_1, FA_93_2, FA_102_2, FA_123_0, FA_123_1, FA_123_2, FA_123_3, FA_123_4, FA_131_0, FA_131_1, FA_131_2, LEN_35, LEN_45, LEN_49, LEN_53, LEN_54, LEN_57, LEN_86, LEN_88, LEN_147, xIf_dec]
      refine ⟨fun hlt => ?_, fun hge => ?_⟩
      · refine askS (h3.kept0 hk5) fun b6 w6 hb6 hk6 hl6 => ?_
        have hk36 := hk5.then hk6 (by simp)
        refine askS (ht3.kept0 hk36) fun b7 w7 hb7 hk7 hl7 => ?_
        have hk37 := hk36.then hk7 (by simp)
        refine xJoin_one ?_
        refine ((ldSn (hb6.kept hk7 (by simp))).2 _).2 ?_
        refine ((ldSn hb7).2 _).2 ?_
        refine neSn.2 ?_
        try simp only [decide_true, Bool.not_true, xP_nil, xP_pick, xP_func, xP_not, xP_add, xP_sub, xP_mul, xP_lss, xP_leq, xP_gtr, xP_geq, xP_max2, xP_min2, xR_eql, xR_neq, Nat.zero_add, Nat.add_zero, Nat.reduceAdd, List.getD_cons_zero, List.getD_cons_succ, xIf_true, xIf_false, FA_25_0, FA_39_0, FA_41_0, FA_41_1, FA_41_2, FA_56_0, FA_56_1, FA_56_2, FA_56_3, FA_56_4, FA_56_5, FA_72_0, FA_79_0, FA_79_1, FA_93_0, FA_93_1, FA_93_2, FA_102_2, FA_123_0, FA_123_1, FA_123_2, FA_123_3, FA_123_4, FA_131_0, FA_131_1, FA_131_2, LEN_35, LEN_45, LEN_49, LEN_53, LEN_54, LEN_57, LEN_86, LEN_88, LEN_147]
        refine (xR_neqBool BOOL).2 ?_
        try simp only [beq_self_eq_true, Bool.not_true, xP_nil, xP_pick, xP_func, xP_not, xP_add, xP_sub, xP_mul, xP_lss, xP_leq, xP_gtr, xP_geq, xP_max2, xP_min2, xR_eql, xR_neq, Nat.zero_add, Nat.add_zero, Nat.reduceAdd, List.getD_cons_zero, List.getD_cons_succ, xIf_true, xIf_false, FA_25_0, FA_39_0, FA_41_0, FA_41_1, FA_41_2, FA_56_0, FA_56_1, FA_56_2, FA_56_3, FA_56_4, FA_56_5, FA_72_0, FA_79_0, FA_79_1, FA_93_0, FA_93_1, FA_93_2, FA_102_2, FA_123_0, FA_123_1, FA_123_2, FA_123_3, FA_123_4, FA_131_0, FA_131_1, FA_131_2, LEN_35, LEN_45, LEN_49, LEN_53, LEN_54, LEN_57, LEN_86, LEN_88, LEN_147]
        refine kindA (hg.kept0 (hk03.then hk37 (by simp))) fun w8 hk8 => ?_
        have hk38 := hk37.then hk8 (by simp)
        refine kindA (hg.kept0 (hk03.then hk38 (by simp))) fun w9 hk9 => ?_
        have hk39 := hk38.then hk9 (by simp)
        try simp only [xP_nil, xP_pick, xP_func, xP_not, xP_add, xP_sub, xP_mul, xP_lss, xP_leq, xP_gtr, xP_geq, xP_max2, xP_min2, xR_eql, xR_neq, Nat.zero_add, Nat.add_zero, Nat.reduceAdd, List.getD_cons_zero, List.getD_cons_succ, xIf_true, xIf_false, FA_25_0, FA_39_0, FA_41_0, FA_41_1, FA_41_2, FA_56_0, FA_56_1, FA_56_2, FA_56_3, FA_56_4, FA_56_5, FA_72_0, FA_79_0, FA_79_1, FA_93_0, FA_93_1, FA_93_2, FA_102_2, FA_123_0, FA_123_1, FA_123_2, FA_123_3, FA_123_4, FA_131_0, FA_131_1, FA_131_2, LEN_35, LEN_45, LEN_49, LEN_53, LEN_54, LEN_57, LEN_86, LEN_88, LEN_147, ne_eq, not_true_eq_false, decide_false]
        intro _
        try simp only [xP_nil, xP_pick, xP_func, xP_not, xP_add, xP_sub, xP_mul, xP_lss, xP_leq, xP_gtr, xP_geq, xP_max2, xP_min2, xR_eql, xR_neq, Nat.zero_add, Nat.add_zero, Nat.reduceAdd, List.getD_cons_zero, List.getD_cons_succ, xIf_true, xIf_false, FA_25_0, FA_39_0, FA_41_0, FA_41_1, FA_41_2, FA_56_0, FA_56_1, FA_56_2, FA_56_3, FA_56_4, FA_56_5, FA_72_0, FA_79_0, FA_79_1, FA_93_0, FA_93_1, FA_93_2, FA_102_2, FA_123_0, FA_123_1, FA_123_2, FA_123_3, FA_123_4, FA_131_0, FA_131_1, FA_131_2, LEN_35, LEN_45, LEN_49, LEN_53, LEN_54, LEN_57, LEN_86, LEN_88, LEN_147]
        rw [wrap64 (by omega) (by omega)]
        exact ⟨⟨n + 1, rfl, by omega, hk39⟩, by omega⟩
      · rw [wrap64 (by omega) (by omega)]
        exact ⟨⟨i1 + 1, rfl, by omega, by omega, hk5⟩, by omega⟩
    · have hk04 := hk03.then hk4 (by simp)
      have h4 := h3.kept0 hk4
      have ht4 := ht3.kept0 hk4
      refine xE_call CF_16 (within_ok (by omega) (by omega) (by omega)) ?_
      rintro _ _ ⟨rfl, rfl⟩
      have hss := within_bd (n := s) (lo := 0) (hi := 9) (by omega)
      refine xP_add.2 ?_
      rw [wrap64 (x := 100 + within s 0 9) (by omega) (by omega)]
      have hz : 100 ≤ 100 + within s 0 9 ∧ 100 + within s 0 9 ≤ 109 := by omega
      generalize 100 + within s 0 9 = z at *
      refine (xP_build b2Sn).2 ?_
      obtain ⟨x, ex⟩ : ∃ x : Sn, x = ⟨z, 1, 0⟩ := ⟨_, rfl⟩
      have ez : z = x.seq := by rw [ex]
      have hxs : 100 ≤ x.seq ∧ x.seq ≤ 109 := by rw [ex]; exact hz
      rw [← ex, ez] at *
      refine newSn (x := x) fun w5 hb5 hk5 => ?_
      refine ((ldSn hb5).2 _).2 ?_
      refine noteS (ht4.kept0 hk5) fun _ w6 ht6 hk6 => ?_
      have hlt2 := h2.blk.lt
      have hlr2 := h2.map.lt
      have hsz3 := hk3.size
      have hq5 := (ht4.kept0 hk5).map.lt
      have hq4 := ht4.map.lt
      have h6 : Ded w6 d r m := (h4.kept0 hk5).kept hk6 (by simp; omega) (by simp; omega)
      have hb6 : Blk w6 w4.heap.size 25 (encSn x) := hb5.kept hk6 (by simp; omega)
      have hk06 : Kept [] w w6 := (hk04.then hk5 (by simp)).then hk6 (by intro k hk; simp at hk; subst hk; have := hk2.size; exact .inr (by omega))
      simp only [FA_25_0, Nat.add_zero]
      refine ((ldSn hb6).1 _).2 ?_
      refine askS h6 fun b7 w7 hb7 hk7 hl7 => ?_
      refine ((ldSn (hb6.kept hk7 (by simp))).1 _).2 ?_
      refine askS (ht6.kept0 hk7) fun b8 w8 hb8 hk8 hl8 => ?_
      rw [noted_ask (by omega) (by omega)] at hb8 ⊢
      rw [low_ask hlow (by omega) (by omega)]
      refine xP_not.2 ?_
      try simp only [Bool.not_false, xP_nil, xP_pick, xP_func, xP_not, xP_add, xP_sub, xP_mul, xP_lss, xP_leq, xP_gtr, xP_geq, xP_max2, xP_min2, xR_eql, xR_neq, Nat.zero_add, Nat.add_zero, Nat.reduceAdd, List.getD_cons_zero, List.getD_cons_succ, xIf_true, xIf_false, FA_25_0, FA_39_0, FA_41_0, FA_41_1, FA_41_2, FA_56_0, FA_56_1, FA_56_2, FA_56_3, FA_56_4, FA_56_5, FA_72_0, FA_79_0, FA_79_1, FA_93_0, FA_93_1, FA_93_2, FA_102_2, FA_123_0, FA_123_1, FA_123_2, FA_123_3, FA_123_4, FA_131_0, FA_131_1, FA_131_2, LEN_35, LEN_45, LEN_49, LEN_53, LEN_54, LEN_57, LEN_86, LEN_88, LEN_147]
      refine ((ldSn hb8).2 _).2 ?_
      refine ((ldSn ((hb6.kept hk7 (by simp)).kept hk8 (by simp))).2 _).2 ?_
      refine eqSn.2 ?_
      try simp only [decide_true, xP_nil, xP_pick, xP_func, xP_not, xP_add, xP_sub, xP_mul, xP_lss, xP_leq, xP_gtr, xP_geq, xP_max2, xP_min2, xR_eql, xR_neq, Nat.zero_add, Nat.add_zero, Nat.reduceAdd, List.getD_cons_zero, List.getD_cons_succ, xIf_true, xIf_false, FA_25_0, FA_39_0, FA_41_0, FA_41_1, FA_41_2, FA_56_0, FA_56_1, FA_56_2, FA_56_3, FA_56_4, FA_56_5, FA_72_0, FA_79_0, FA_79_1, FA_93_0, FA_93_1, FA_93_2, FA_102_2, FA_123_0, FA_123_1, FA_123_2, FA_123_3, FA_123_4, FA_131_0, FA_131_1, FA_131_2, LEN_35, LEN_45, LEN_49, LEN_53, LEN_54, LEN_57, LEN_86, LEN_88, LEN_147]
      have hk08 := (hk06.then hk7 (by simp)).then hk8 (by simp)
      refine xE_call CF_3 (runs_ok (hg.kept0 hk08)) ?_
      rintro _ w9 ⟨rfl, hk9⟩
      exact ⟨rfl, hk08.then hk9 (by simp)⟩
end Go.Proofs.YtbfaglbfpmnnmaaDoor
