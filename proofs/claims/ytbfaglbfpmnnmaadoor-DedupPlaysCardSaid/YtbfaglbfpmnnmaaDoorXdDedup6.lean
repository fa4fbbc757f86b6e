import Derived.Test.YtbfaglbfpmnnmaaDoorXdDedup5
namespace Go.Proofs.YtbfaglbfpmnnmaaDoor
set_option linter.unusedSimpArgs false
set_option linter.unusedVariables false
set_option maxRecDepth 100000
attribute [local irreducible] Go.X.xE
open Go Go.X Go.RowKit

/-! ## DedupApart -/
theorem mset_keys {α β : Type} {k : Int} {u : α} {v : β} : ∀ {l : List (Int × α)} {l' : List (Int × β)}, l.map (·.1) = l'.map (·.1) → (mset l k u).map (·.1) = (mset l' k v).map (·.1)
  | [], [], _ => rfl
  | [], _ :: _, h => by cases h
  | _ :: _, [], h => by cases h
  | p :: l, p' :: l', h => by
    simp only [List.map_cons, List.cons.injEq] at h
    obtain ⟨h1, h2⟩ := h
    simp only [mset, ← h1]
    split
    · simp [h2]
    · simp [h1, mset_keys (k := k) (u := u) (v := v) h2]
theorem mget_keys {α β : Type} {k : Int} : ∀ {l : List (Int × α)} {l' : List (Int × β)}, l.map (·.1) = l'.map (·.1) → ((mget l k).isNone ↔ (mget l' k).isNone)
  | [], [], _ => Iff.rfl
  | [], _ :: _, h => by cases h
  | _ :: _, [], h => by cases h
  | p :: l, p' :: l', h => by
    simp only [List.map_cons, List.cons.injEq] at h
    obtain ⟨h1, h2⟩ := h
    simp only [mget, ← h1]
    split
    · simp
    · exact mget_keys h2
/-- What each producer sent, and what it sends next. -/
structure ApartI (i : Nat) (m : List (Int × Sn)) (nx : List (Int × Int)) : Prop where
  keys : m.map (·.1) = nx.map (·.1)
  rel : ∀ k n, mget nx k = some n → 1 ≤ n ∧ n ≤ i ∧ ∃ b c, mget m k = some ⟨n - 1, b, c⟩
theorem ApartI.gone {i : Nat} {m : List (Int × Sn)} {nx : List (Int × Int)} (h : ApartI i m nx) {k : Int} (hk : mget nx k = none) : mget m k = none := by
  have := (mget_keys (k := k) h.keys).2 (by rw [hk]; rfl)
  cases hm : mget m k with
  | none => rfl
  | some x => rw [hm] at this; cases this
theorem ApartI.val {i : Nat} {m : List (Int × Sn)} {nx : List (Int × Int)} (h : ApartI i m nx) (k : Int) : 0 ≤ (mget nx k).getD 0 ∧ (mget nx k).getD 0 ≤ i := by
  cases hn : mget nx k with
  | none => simp
  | some n => have := h.rel k n hn; simp; omega
theorem ApartI.ask {i : Nat} {m : List (Int × Sn)} {nx : List (Int × Int)} (h : ApartI i m nx) {k : Int} (hk : 1 ≤ k ∧ k ≤ 6) (hi : i ≤ 40) : dedAsk m k ((mget nx k).getD 0) = (snZ, false, none) := by
  have hv := h.val k
  have hf : dedFine k ((mget nx k).getD 0) := ⟨hk.1, by omega, hv.1, by omega⟩
  cases hn : mget nx k with
  | none => rw [hn] at hf; rw [show (Option.none : Option Int).getD 0 = 0 from rfl] at hf ⊢; rw [ask_none hf (h.gone hn), if_pos rfl]
  | some n =>
    rw [hn] at hf
    obtain ⟨h1, h2, b, c, hm⟩ := h.rel k n hn
    rw [show (some n).getD 0 = n from rfl] at hf ⊢
    rw [ask_some hf hm, if_neg (by simp only; omega), if_pos (by simp only; rw [wrap64 (by omega) (by omega)]; omega)]
theorem ApartI.again {i : Nat} {m : List (Int × Sn)} {nx : List (Int × Int)} (h : ApartI i m nx) {k : Int} (hk : 1 ≤ k ∧ k ≤ 6) (hi : i ≤ 40) (h0 : (mget nx k).getD 0 ≠ 0) : ∃ x : Sn, dedAsk m k ((mget nx k).getD 0 - 1) = (x, true, none) ∧ x.seq = (mget nx k).getD 0 - 1 := by
  cases hn : mget nx k with
  | none => rw [hn] at h0; exact absurd rfl h0
  | some n =>
    obtain ⟨h1, h2, b, c, hm⟩ := h.rel k n hn
    rw [show (some n).getD 0 = n from rfl]
    have hf : dedFine k (n - 1) := ⟨hk.1, by omega, by omega, by omega⟩
    exact ⟨_, by rw [ask_some hf hm, if_pos rfl], rfl⟩
theorem ApartI.step {i : Nat} {m : List (Int × Sn)} {nx : List (Int × Int)} (h : ApartI i m nx) {k b c : Int} (hk : k ≠ 0) : ApartI (i + 1) (dedNote m k ⟨(mget nx k).getD 0, b, c⟩) (mset nx k ((mget nx k).getD 0 + 1)) := by
  have hv := h.val k
  unfold dedNote
  rw [if_neg hk]
  refine ⟨mset_keys h.keys, fun k' n hn => ?_⟩
  rw [mget_set] at hn ⊢
  split at hn
  · rename_i he
    cases hn
    rw [if_pos he]
    exact ⟨by omega, by omega, b, c, by simp⟩
  · rename_i he
    rw [if_neg he]
    obtain ⟨h1, h2, h3⟩ := h.rel k' n hn
    exact ⟨h1, by omega, h3⟩
theorem ApartI.len {i : Nat} {m : List (Int × Sn)} {nx : List (Int × Int)} (h : ApartI i m nx) : m.length = nx.length := by
  have := congrArg List.length h.keys
  simpa using this
theorem getI {w : World} {r : Nat} {nx : List (Int × Int)} {k : Int} {K : Value → Prop} (h : MapOf w r (Value.int .i64) nx) : xR Tryd.prog (sLookup 51 (.map (some r)) (.int .i64 k) false) w K ↔ K (.int .i64 ((mget nx k).getD 0)) := by
  rw [xR_lookup MP_51 h (z := .int .i64 0) Z_3]
  cases mget nx k <;> rfl

theorem apart_ok {l : List DAsk} {p s : Int} {v0 : Value} {w : World} (hg : Glob w) (hsl : SlT w encDA v0 l) : Gives Tryd.prog 6 #[v0, .int .i64 p, .int .i64 s] w fun u w' => u = .bool true ∧ Kept [] w w' := by
  refine C_stavelaw18_DedupApart ?_
  unfold S_stavelaw18_DedupApart
  refine newS fun d r w1 h1 hd hr hk1 => ?_
  refine notNil.2 ?_
  try simp only [xP_nil, xP_pick, xP_func, xP_not, xP_add, xP_sub, xP_mul, xP_lss, xP_leq, xP_gtr, xP_geq, xP_max2, xP_min2, xR_eql, xR_neq, Nat.zero_add, Nat.add_zero, Nat.reduceAdd, List.getD_cons_zero, List.getD_cons_succ, xIf_true, xIf_false, FA_25_0, FA_39_0, FA_41_0, FA_41_1, FA_41_2, FA_56_0, FA_56_1, FA_56_2, FA_56_3, FA_56_4, FA_56_5, FA_72_0, FA_79_0, FA_79_1, FA_93_0, FA_93_1, FA_93_2, FA_102_2, FA_123_0, FA_123_1, FA_123_2, FA_123_3, FA_123_4, FA_131_0, FA_131_1, FA_131_2, LEN_35, LEN_45, LEN_49, LEN_53, LEN_54, LEN_57, LEN_86, LEN_88, LEN_147]
  refine xE_makeMap (val := Value.int .i64) MP_51 (.inl rfl) fun w2 hn2 hk2 hz2 => ?_
  have hlt1 := h1.blk.lt
  have hlt2 := h1.map.lt
  have hsz1 := hk1.size
  generalize hq : w1.heap.size = q at *
  obtain ⟨a, c, rfl, hc, hrow⟩ := hsl
  have hsl : SlT w encDA (.slice a l.length c) l := ⟨a, c, rfl, hc, hrow⟩
  have hdq : d < q := by omega
  have hrq : r < q := by omega
  have hwq : w.heap.size ≤ q := by omega
  have hrw : ∀ k ∈ [r], k ∈ ([] : List Nat) ∨ w.heap.size ≤ k := by intro k hk; simp at hk; subst hk; exact .inr hr
  have hqw : ∀ k ∈ [q], k ∈ ([] : List Nat) ∨ w.heap.size ≤ k := by intro k hk; simp at hk; subst hk; exact .inr hwq
  refine xLoop_of (fun vs w' => ∃ (i : Nat) (m : List (Int × Sn)) (nx : List (Int × Int)), vs = [.int .i64 i] ∧ i ≤ 40 ∧ Ded w' d r m ∧ MapOf w' q (Value.int .i64) nx ∧ ApartI i m nx ∧ Kept [] w w')
    (fun vs _ => match vs with | [.int _ i] => 40 - i.toNat | _ => 0) ⟨0, [], [], rfl, by omega, h1.kept0 hk2, hn2, ⟨rfl, fun k n hn => (by cases hn)⟩, hk1.then hk2 (by simp)⟩ ?_
  rintro _ _ w3 ⟨i, m, nx, rfl, hi, h3, hn3, hI, hk3⟩
  refine xTest2 SL_35 (fun hlt h40 => ?_) (fun hge => ?_)
  · intro _
    simp only [xIf_true, List.getD_cons_zero]
    refine (fldP hsl hk3 hlt).2 ?_
    refine xE_call CF_16 (within_ok (by omega) (by omega) (by omega)) ?_
    rintro _ _ ⟨rfl, rfl⟩
    have hkk := within_bd (n := l[i].p) (lo := 1) (hi := 6) (by omega)
    generalize within l[i].p 1 6 = k at *
    have hask := hI.ask hkk hi
    have hv := hI.val k
    refine (getI hn3).2 ?_
    refine askS h3 fun b4 w4 hb4 hk4 hl4 => ?_
    rw [hask]
    refine xJoin_one ?_
    try simp only [xP_nil, xP_pick, xP_func, xP_not, xP_add, xP_sub, xP_mul, xP_lss, xP_leq, xP_gtr, xP_geq, xP_max2, xP_min2, xR_eql, xR_neq, Nat.zero_add, Nat.add_zero, Nat.reduceAdd, List.getD_cons_zero, List.getD_cons_succ, xIf_true, xIf_false, FA_25_0, FA_39_0, FA_41_0, FA_41_1, FA_41_2, FA_56_0, FA_56_1, FA_56_2, FA_56_3, FA_56_4, FA_56_5, FA_72_0, FA_79_0, FA_79_1, FA_93_0, FA_93_1, FA_93_2, FA_102_2, FA_123_0, FA_123_1, FA_123_2, FA_123_3, FA_123_4, FA_131_0, FA_131_1, FA_131_2, LEN_35, LEN_45, LEN_49, LEN_53, LEN_54, LEN_57, LEN_86, LEN_88, LEN_147]
    refine optV_neq.2 ?_
    try simp only [xP_nil, xP_pick, xP_func, xP_not, xP_add, xP_sub, xP_mul, xP_lss, xP_leq, xP_gtr, xP_geq, xP_max2, xP_min2, xR_eql, xR_neq, Nat.zero_add, Nat.add_zero, Nat.reduceAdd, List.getD_cons_zero, List.getD_cons_succ, xIf_true, xIf_false, FA_25_0, FA_39_0, FA_41_0, FA_41_1, FA_41_2, FA_56_0, FA_56_1, FA_56_2, FA_56_3, FA_56_4, FA_56_5, FA_72_0, FA_79_0, FA_79_1, FA_93_0, FA_93_1, FA_93_2, FA_102_2, FA_123_0, FA_123_1, FA_123_2, FA_123_3, FA_123_4, FA_131_0, FA_131_1, FA_131_2, LEN_35, LEN_45, LEN_49, LEN_53, LEN_54, LEN_57, LEN_86, LEN_88, LEN_147, Option.isSome_none]
    intro _
    try simp only [xP_nil, xP_pick, xP_func, xP_not, xP_add, xP_sub, xP_mul, xP_lss, xP_leq, xP_gtr, xP_geq, xP_max2, xP_min2, xR_eql, xR_neq, Nat.zero_add, Nat.add_zero, Nat.reduceAdd, List.getD_cons_zero, List.getD_cons_succ, xIf_true, xIf_false, FA_25_0, FA_39_0, FA_41_0, FA_41_1, FA_41_2, FA_56_0, FA_56_1, FA_56_2, FA_56_3, FA_56_4, FA_56_5, FA_72_0, FA_79_0, FA_79_1, FA_93_0, FA_93_1, FA_93_2, FA_102_2, FA_123_0, FA_123_1, FA_123_2, FA_123_3, FA_123_4, FA_131_0, FA_131_1, FA_131_2, LEN_35, LEN_45, LEN_49, LEN_53, LEN_54, LEN_57, LEN_86, LEN_88, LEN_147]
    have h4 := h3.kept0 hk4
    have hn4 := hn3.kept hk4 (by simp)
    have hk04 := hk3.then hk4 (by simp)
    refine (getI hn4).2 ?_
    refine (xP_build b3Sn).2 ?_
    refine noteS (s := ⟨(mget nx k).getD 0, i, 1⟩) h4 fun _ w5 h5 hk5 => ?_
    have hn5 := hn4.kept hk5 (by simp; omega)
    have hk05 := hk04.then hk5 hrw
    refine (getI hn5).2 ?_
    refine xP_add.2 ?_
    rw [wrap64 (by omega) (by omega)]
    refine xE_mapUpdate MP_51 hn5 rfl fun w6 hn6 hk6 hz6 => ?_
    have h6 := h5.kept hk6 (by simp; omega) (by simp; omega)
    have hk06 := hk05.then hk6 hqw
    have hI6 := hI.step (k := k) (b := i) (c := 1) (by omega)
    generalize dedNote m k ⟨(mget nx k).getD 0, i, 1⟩ = m' at *
    generalize mset nx k ((mget nx k).getD 0 + 1) = nx' at *
    refine xLoop_of (fun vs w' => ∃ n : Nat, vs = [.int .i64 n] ∧ 1 ≤ n ∧ n ≤ 7 ∧ Kept [] w6 w') (fun vs _ => match vs with | [.int _ i] => 7 - i.toNat | _ => 0) ⟨1, rfl, by omega, by omega, Kept.refl _ _⟩ ?_
    rintro _ _ w7 ⟨n, rfl, hn1, hn7, hk7⟩
    have h7 := h6.kept0 hk7
    have hm7 := hn6.kept hk7 (by simp)
    simp only [xP_nil, xP_pick, xP_func, xP_not, xP_add, xP_sub, xP_mul, xP_lss, xP_leq, xP_gtr, xP_geq, xP_max2, xP_min2, xR_eql, xR_neq, Nat.zero_add, Nat.add_zero, Nat.reduceAdd, List.getD_cons_zero, List.getD_cons_succ, xIf_true, xIf_false, FA_25_0, FA_39_0, FA_41_0, FA_41_1, FA_41_2, FA_56_0, FA_56_1, FA_56_2, FA_56_3, FA_56_4, FA_56_5, FA_72_0, FA_79_0, FA_79_1, FA_93_0, FA_93_1, FA_93_2, FA_102_2, FA_123_0, FA_123_1, FA_123_2, FA_123_3, FA_123_4, FA_131_0, FA_131_1, FA_131_2, LEN_35, LEN_45, LEN_49, LEN_53, LEN_54, LEN_57, LEN_86, LEN_88, LEN_147, xIf_dec]
    refine ⟨fun hle => ?_, fun hgt => ?_⟩
    · refine xJoin_of (fun vs w' => Kept [] w6 w') ?_ ?_
      · refine (getI hm7).2 ?_
        simp only [xP_nil, xP_pick, xP_func, xP_not, xP_add, xP_sub, xP_mul, xP_lss, xP_leq, xP_gtr, xP_geq, xP_max2, xP_min2, xR_eql, xR_neq, Nat.zero_add, Nat.add_zero, Nat.reduceAdd, List.getD_cons_zero, List.getD_cons_succ, xIf_true, xIf_false, FA_25_0, FA_39_0, FA_41_0, FA_41_1, FA_41_2, FA_56_0, FA_56_1, FA_56_2, FA_56_3, FA_56_4, FA_56_5, FA_72_0, FA_79_0, FA_79_1, FA_93_0, FA_93_1, FA_93_2, FA_102_2, FA_123_0, FA_123_1, FA_123_2, FA_123_3, FA_123_4, FA_131_0, FA_131_1, FA_131_2, LEN_35, LEN_45, LEN_49, LEN_53, LEN_54, LEN_57, LEN_86, LEN_88, LEN_147, xIf_dec]
        refine ⟨fun hz => hk7, fun hz => ?_⟩
        have hv := hI6.val n
        obtain ⟨x, hx, hxs⟩ := hI6.again (k := n) (by omega) (by omega) hz
        refine (getI hm7).2 ?_
        refine xP_sub.2 ?_
        rw [wrap64 (by omega) (by omega)]
        refine askS h7 fun b8 w8 hb8 hk8 hl8 => ?_
        rw [hx] at hb8 ⊢
        refine xJoin_one ?_
        try simp only [xP_nil, xP_pick, xP_func, xP_not, xP_add, xP_sub, xP_mul, xP_lss, xP_leq, xP_gtr, xP_geq, xP_max2, xP_min2, xR_eql, xR_neq, Nat.zero_add, Nat.add_zero, Nat.reduceAdd, List.getD_cons_zero, List.getD_cons_succ, xIf_true, xIf_false, FA_25_0, FA_39_0, FA_41_0, FA_41_1, FA_41_2, FA_56_0, FA_56_1, FA_56_2, FA_56_3, FA_56_4, FA_56_5, FA_72_0, FA_79_0, FA_79_1, FA_93_0, FA_93_1, FA_93_2, FA_102_2, FA_123_0, FA_123_1, FA_123_2, FA_123_3, FA_123_4, FA_131_0, FA_131_1, FA_131_2, LEN_35, LEN_45, LEN_49, LEN_53, LEN_54, LEN_57, LEN_86, LEN_88, LEN_147, Bool.not_true]
        refine optV_neq.2 ?_
        try simp only [xP_nil, xP_pick, xP_func, xP_not, xP_add, xP_sub, xP_mul, xP_lss, xP_leq, xP_gtr, xP_geq, xP_max2, xP_min2, xR_eql, xR_neq, Nat.zero_add, Nat.add_zero, Nat.reduceAdd, List.getD_cons_zero, List.getD_cons_succ, xIf_true, xIf_false, FA_25_0, FA_39_0, FA_41_0, FA_41_1, FA_41_2, FA_56_0, FA_56_1, FA_56_2, FA_56_3, FA_56_4, FA_56_5, FA_72_0, FA_79_0, FA_79_1, FA_93_0, FA_93_1, FA_93_2, FA_102_2, FA_123_0, FA_123_1, FA_123_2, FA_123_3, FA_123_4, FA_131_0, FA_131_1, FA_131_2, LEN_35, LEN_45, LEN_49, LEN_53, LEN_54, LEN_57, LEN_86, LEN_88, LEN_147, Option.isSome_none]
        refine ((ldSn hb8).1 _).2 ?_
        refine (getI (hm7.kept hk8 (by simp))).2 ?_
        try simp only [xP_nil, xP_pick, xP_func, xP_not, xP_add, xP_sub, xP_mul, xP_lss, xP_leq, xP_gtr, xP_geq, xP_max2, xP_min2, xR_eql, xR_neq, Nat.zero_add, Nat.add_zero, Nat.reduceAdd, List.getD_cons_zero, List.getD_cons_succ, xIf_true, xIf_false, FA_25_0, FA_39_0, FA_41_0, FA_41_1, FA_41_2, FA_56_0, FA_56_1, FA_56_2, FA_56_3, FA_56_4, FA_56_5, FA_72_0, FA_79_0, FA_79_1, FA_93_0, FA_93_1, FA_93_2, FA_102_2, FA_123_0, FA_123_1, FA_123_2, FA_123_3, FA_123_4, FA_131_0, FA_131_1, FA_131_2, LEN_35, LEN_45, LEN_49, LEN_53, LEN_54, LEN_57, LEN_86, LEN_88, LEN_147]
        rw [wrap64 (by omega) (by omega)]
        rw [hxs]
        simp only [ne_eq, not_true_eq_false, decide_false]
        intro _
        try simp only [xP_nil, xP_pick, xP_func, xP_not, xP_add, xP_sub, xP_mul, xP_lss, xP_leq, xP_gtr, xP_geq, xP_max2, xP_min2, xR_eql, xR_neq, Nat.zero_add, Nat.add_zero, Nat.reduceAdd, List.getD_cons_zero, List.getD_cons_succ, xIf_true, xIf_false, FA_25_0, FA_39_0, FA_41_0, FA_41_1, FA_41_2, FA_56_0, FA_56_1, FA_56_2, FA_56_3, FA_56_4, FA_56_5, FA_72_0, FA_79_0, FA_79_1, FA_93_0, FA_93_1, FA_93_2, FA_102_2, FA_123_0, FA_123_1, FA_123_2, FA_123_3, FA_123_4, FA_131_0, FA_131_1, FA_131_2, LEN_35, LEN_45, LEN_49, LEN_53, LEN_54, LEN_57, LEN_86, LEN_88, LEN_147]
        exact hk7.then hk8 (by simp)
      · intro _ _ w8 hk8
        try simp only [xP_nil, xP_pick, xP_func, xP_not, xP_add, xP_sub, xP_mul, xP_lss, xP_leq, xP_gtr, xP_geq, xP_max2, xP_min2, xR_eql, xR_neq, Nat.zero_add, Nat.add_zero, Nat.reduceAdd, List.getD_cons_zero, List.getD_cons_succ, xIf_true, xIf_false, FA_25_0, FA_39_0, FA_41_0, FA_41_1, FA_41_2, FA_56_0, FA_56_1, FA_56_2, FA_56_3, FA_56_4, FA_56_5, FA_72_0, FA_79_0, FA_79_1, FA_93_0, FA_93_1, FA_93_2, FA_102_2, FA_123_0, FA_123_1, FA_123_2, FA_123_3, FA_123_4, FA_131_0, FA_131_1, FA_131_2, LEN_35, LEN_45, LEN_49, LEN_53, LEN_54, LEN_57, LEN_86, LEN_88, LEN_147]
        rw [wrap64 (by omega) (by omega)]
        exact ⟨⟨n + 1, rfl, by omega, by omega, hk8⟩, by omega⟩
    · try simp only [xP_nil, xP_pick, xP_func, xP_not, xP_add, xP_sub, xP_mul, xP_lss, xP_leq, xP_gtr, xP_geq, xP_max2, xP_min2, xR_eql, xR_neq, Nat.zero_add, Nat.add_zero, Nat.reduceAdd, List.getD_cons_zero, List.getD_cons_succ, xIf_true, xIf_false, FA_25_0, FA_39_0, FA_41_0, FA_41_1, FA_41_2, FA_56_0, FA_56_1, FA_56_2, FA_56_3, FA_56_4, FA_56_5, FA_72_0, FA_79_0, FA_79_1, FA_93_0, FA_93_1, FA_93_2, FA_102_2, FA_123_0, FA_123_1, FA_123_2, FA_123_3, FA_123_4, FA_131_0, FA_131_1, FA_131_2, LEN_35, LEN_45, LEN_49, LEN_53, LEN_54, LEN_57, LEN_86, LEN_88, LEN_147]
      rw [wrap64 (by omega) (by omega)]
      exact ⟨⟨i + 1, m', nx', rfl, by omega, h7, hm7, hI6, hk06.then hk7 (by simp)⟩, by omega⟩
  · intro _
    simp only [xIf_false, List.getD_cons_zero]
    refine askS h3 fun b4 w4 hb4 hk4 hl4 => ?_
    rw [ask_zero] at hb4 ⊢
    refine xE_call CF_16 (within_ok (by omega) (by omega) (by omega)) ?_
    rintro _ _ ⟨rfl, rfl⟩
    have hp := within_bd (n := p) (lo := 0) (hi := 9) (by omega)
    refine xP_add.2 ?_
    rw [wrap64 (by omega) (by omega)]
    refine askS (h3.kept0 hk4) fun b5 w5 hb5 hk5 hl5 => ?_
    rw [ask_bad (p := 1048577 + within p 0 9) (by omega) (by omega)]
    have k35 := hk4.then hk5 (by simp)
    refine xE_call CF_16 (within_ok (by omega) (by omega) (by omega)) ?_
    rintro _ _ ⟨rfl, rfl⟩
    refine xP_sub.2 ?_
    rw [wrap64 (by omega) (by omega)]
    refine askS (h3.kept0 k35) fun b6 w6 hb6 hk6 hl6 => ?_
    rw [ask_bad (p := 1) (by omega) (by omega)]
    have k36 := k35.then hk6 (by simp)
    refine askS (h3.kept0 k36) fun b7 w7 hb7 hk7 hl7 => ?_
    rw [ask_bad (p := -1) (by omega) (by omega)]
    have k37 := k36.then hk7 (by simp)
    refine ((ldSn (((hb4.kept hk5 (by simp)).kept hk6 (by simp)).kept hk7 (by simp))).2 _).2 ?_
    refine (xP_build b0Sn).2 ?_
    refine eqSn.2 ?_
    try simp only [xP_nil, xP_pick, xP_func, xP_not, xP_add, xP_sub, xP_mul, xP_lss, xP_leq, xP_gtr, xP_geq, xP_max2, xP_min2, xR_eql, xR_neq, Nat.zero_add, Nat.add_zero, Nat.reduceAdd, List.getD_cons_zero, List.getD_cons_succ, xIf_true, xIf_false, FA_25_0, FA_39_0, FA_41_0, FA_41_1, FA_41_2, FA_56_0, FA_56_1, FA_56_2, FA_56_3, FA_56_4, FA_56_5, FA_72_0, FA_79_0, FA_79_1, FA_93_0, FA_93_1, FA_93_2, FA_102_2, FA_123_0, FA_123_1, FA_123_2, FA_123_3, FA_123_4, FA_131_0, FA_131_1, FA_131_2, LEN_35, LEN_45, LEN_49, LEN_53, LEN_54, LEN_57, LEN_86, LEN_88, LEN_147, decide_true, Bool.not_false]
    refine optV_eql.2 ?_
    try simp only [xP_nil, xP_pick, xP_func, xP_not, xP_add, xP_sub, xP_mul, xP_lss, xP_leq, xP_gtr, xP_geq, xP_max2, xP_min2, xR_eql, xR_neq, Nat.zero_add, Nat.add_zero, Nat.reduceAdd, List.getD_cons_zero, List.getD_cons_succ, xIf_true, xIf_false, FA_25_0, FA_39_0, FA_41_0, FA_41_1, FA_41_2, FA_56_0, FA_56_1, FA_56_2, FA_56_3, FA_56_4, FA_56_5, FA_72_0, FA_79_0, FA_79_1, FA_93_0, FA_93_1, FA_93_2, FA_102_2, FA_123_0, FA_123_1, FA_123_2, FA_123_3, FA_123_4, FA_131_0, FA_131_1, FA_131_2, LEN_35, LEN_45, LEN_49, LEN_53, LEN_54, LEN_57, LEN_86, LEN_88, LEN_147, Option.isNone_none]
    have kk : ∀ (p : Int) (w' : World) (K : Value → World → Prop), Glob w' → (∀ w'', Kept [] w' w'' → K (.int .i64 1) w'') → xE Tryd.prog (sCall 14 #[optV (some (.flt opDA p (.no 1)))]) w' K := fun p w' K hg' hK =>
      xE_call CF_14 (kind_ok (e := .flt opDA p (.no 1)) trivial hg') (fun u w'' ⟨h1, h2⟩ => by subst h1; exact hK w'' h2)
    have k07 := hk3.then k37 (by simp)
    refine kk _ w7 _ (hg.kept0 k07) fun w8 hk8 => ?_
    have k08 := k07.then hk8 (by simp)
    try simp only [xP_nil, xP_pick, xP_func, xP_not, xP_add, xP_sub, xP_mul, xP_lss, xP_leq, xP_gtr, xP_geq, xP_max2, xP_min2, xR_eql, xR_neq, Nat.zero_add, Nat.add_zero, Nat.reduceAdd, List.getD_cons_zero, List.getD_cons_succ, xIf_true, xIf_false, FA_25_0, FA_39_0, FA_41_0, FA_41_1, FA_41_2, FA_56_0, FA_56_1, FA_56_2, FA_56_3, FA_56_4, FA_56_5, FA_72_0, FA_79_0, FA_79_1, FA_93_0, FA_93_1, FA_93_2, FA_102_2, FA_123_0, FA_123_1, FA_123_2, FA_123_3, FA_123_4, FA_131_0, FA_131_1, FA_131_2, LEN_35, LEN_45, LEN_49, LEN_53, LEN_54, LEN_57, LEN_86, LEN_88, LEN_147, decide_true]
    refine kk _ w8 _ (hg.kept0 k08) fun w9 hk9 => ?_
    have k09 := k08.then hk9 (by simp)
    try simp only [xP_nil, xP_pick, xP_func, xP_not, xP_add, xP_sub, xP_mul, xP_lss, xP_leq, xP_gtr, xP_geq, xP_max2, xP_min2, xR_eql, xR_neq, Nat.zero_add, Nat.add_zero, Nat.reduceAdd, List.getD_cons_zero, List.getD_cons_succ, xIf_true, xIf_false, FA_25_0, FA_39_0, FA_41_0, FA_41_1, FA_41_2, FA_56_0, FA_56_1, FA_56_2, FA_56_3, FA_56_4, FA_56_5, FA_72_0, FA_79_0, FA_79_1, FA_93_0, FA_93_1, FA_93_2, FA_102_2, FA_123_0, FA_123_1, FA_123_2, FA_123_3, FA_123_4, FA_131_0, FA_131_1, FA_131_2, LEN_35, LEN_45, LEN_49, LEN_53, LEN_54, LEN_57, LEN_86, LEN_88, LEN_147, decide_true]
    refine kk _ w9 _ (hg.kept0 k09) fun w10 hk10 => ?_
    have k010 := k09.then hk10 (by simp)
    try simp only [xP_nil, xP_pick, xP_func, xP_not, xP_add, xP_sub, xP_mul, xP_lss, xP_leq, xP_gtr, xP_geq, xP_max2, xP_min2, xR_eql, xR_neq, Nat.zero_add, Nat.add_zero, Nat.reduceAdd, List.getD_cons_zero, List.getD_cons_succ, xIf_true, xIf_false, FA_25_0, FA_39_0, FA_41_0, FA_41_1, FA_41_2, FA_56_0, FA_56_1, FA_56_2, FA_56_3, FA_56_4, FA_56_5, FA_72_0, FA_79_0, FA_79_1, FA_93_0, FA_93_1, FA_93_2, FA_102_2, FA_123_0, FA_123_1, FA_123_2, FA_123_3, FA_123_4, FA_131_0, FA_131_1, FA_131_2, LEN_35, LEN_45, LEN_49, LEN_53, LEN_54, LEN_57, LEN_86, LEN_88, LEN_147, decide_true]
    have k310 := ((k37.then hk8 (by simp)).then hk9 (by simp)).then hk10 (by simp)
    refine xE_call CF_15 (len_ok (h3.kept0 k310)) ?_
    rintro _ _ ⟨rfl, rfl⟩
    refine (xR_lenM MP_51 (hn3.kept k310 (by simp))).2 ?_
    rw [hI.len]
    try simp only [xP_nil, xP_pick, xP_func, xP_not, xP_add, xP_sub, xP_mul, xP_lss, xP_leq, xP_gtr, xP_geq, xP_max2, xP_min2, xR_eql, xR_neq, Nat.zero_add, Nat.add_zero, Nat.reduceAdd, List.getD_cons_zero, List.getD_cons_succ, xIf_true, xIf_false, FA_25_0, FA_39_0, FA_41_0, FA_41_1, FA_41_2, FA_56_0, FA_56_1, FA_56_2, FA_56_3, FA_56_4, FA_56_5, FA_72_0, FA_79_0, FA_79_1, FA_93_0, FA_93_1, FA_93_2, FA_102_2, FA_123_0, FA_123_1, FA_123_2, FA_123_3, FA_123_4, FA_131_0, FA_131_1, FA_131_2, LEN_35, LEN_45, LEN_49, LEN_53, LEN_54, LEN_57, LEN_86, LEN_88, LEN_147, decide_true]
    refine xE_call CF_3 (runs_ok (hg.kept0 k010)) ?_
    rintro _ w11 ⟨rfl, hk11⟩
    exact ⟨rfl, k010.then hk11 (by simp)⟩
end Go.Proofs.YtbfaglbfpmnnmaaDoor
