import Derived.Test.YtjajjblppogfoaaDoorXpIdx1
namespace Go.Proofs.YtjajjblppogfoaaDoor
set_option linter.unusedSimpArgs false
set_option linter.unusedVariables false
set_option maxRecDepth 100000
attribute [local irreducible] Go.X.xE
open Go Go.X

def within (n lo hi : Int) : Int := lo + n % (hi - lo + 1)
theorem within_bd {n lo hi : Int} (h : lo ≤ hi) : lo ≤ within n lo hi ∧ within n lo hi ≤ hi := by
  unfold within
  have h1 := Int.emod_nonneg n (show hi - lo + 1 ≠ 0 by omega)
  have h2 := Int.emod_lt_of_pos n (show 0 < hi - lo + 1 by omega)
  omega

theorem within_ok {n lo hi : Int} {w : World} (h0 : -1152921504606846976 ≤ lo) (h1 : lo ≤ hi) (h2 : hi ≤ 4611686018427387904) :
    Gives Tryd.prog 21 #[.int .i64 n, .int .i64 lo, .int .i64 hi] w fun v w' => v = .int .i64 (within n lo hi) ∧ w = w' := by
  refine C_stavebook_Within ?_
  unfold S_stavebook_Within
  have e1 : IntKind.i64.wrap (hi - lo) = hi - lo := wrap64 (by omega) (by omega)
  have e2 : IntKind.i64.wrap (hi - lo + 1) = hi - lo + 1 := wrap64 (by omega) (by omega)
  simp only [xP_sub, xP_add, e1, e2]
  refine (xP_rem (by omega)).2 ?_
  have hm := Int.tmod_lt_of_pos n (show 0 < hi - lo + 1 by omega)
  have hm2 : -(hi - lo + 1) < n.tmod (hi - lo + 1) := by
    have := Int.lt_tmod_of_pos n (show 0 < hi - lo + 1 by omega)
    omega
  have hpos := Int.emod_nonneg n (show hi - lo + 1 ≠ 0 by omega)
  have hlt := Int.emod_lt_of_pos n (show 0 < hi - lo + 1 by omega)
  have hdvd : ∃ k : Int, n.tmod (hi - lo + 1) - n % (hi - lo + 1) = k * (hi - lo + 1) ∧ (k = 0 ∨ k = -1) := by
    by_cases hn : 0 ≤ n
    · exact ⟨0, by rw [Int.tmod_eq_emod_of_nonneg hn]; omega, .inl rfl⟩
    · have := Int.tmod_eq_emod (a := n) (b := hi - lo + 1)
      rw [this]
      split
      · exact ⟨0, by omega, .inl rfl⟩
      · refine ⟨-1, ?_, .inr rfl⟩
        have : ((hi - lo + 1).natAbs : Int) = hi - lo + 1 := by omega
        rw [this]
        omega
  refine xJoin_of (fun vs w' => vs = [.int .i64 (n % (hi - lo + 1))] ∧ w' = w) ?_ ?_
  · simp only [xP_lss, xIf_dec]
    obtain ⟨k, hk, hk'⟩ := hdvd
    refine ⟨fun hneg => ?_, fun hge => ?_⟩
    · simp only [xP_add, xP_sub, and_true]
      have e3 : IntKind.i64.wrap (n.tmod (hi - lo + 1) + hi) = n.tmod (hi - lo + 1) + hi := wrap64 (by omega) (by omega)
      have e4 : IntKind.i64.wrap (n.tmod (hi - lo + 1) + hi - lo) = n.tmod (hi - lo + 1) + hi - lo := wrap64 (by omega) (by omega)
      have e5 : IntKind.i64.wrap (n.tmod (hi - lo + 1) + hi - lo + 1) = n.tmod (hi - lo + 1) + hi - lo + 1 := wrap64 (by omega) (by omega)
      rw [e3, e4, e5]
      congr 2
      rcases hk' with rfl | rfl <;> omega
    · simp only [and_true]
      congr 2
      rcases hk' with rfl | rfl <;> omega
  · rintro _ _ _ ⟨rfl, rfl⟩
    try simp only [xP_nil, xP_pick, xP_func, xP_not, xP_add, xP_sub, xP_mul, xP_lss, xP_leq, xP_gtr, xP_geq, xP_max2, xP_min2, xR_eql, xR_neq, Nat.zero_add, Nat.add_zero, Nat.reduceAdd, List.getD_cons_zero, List.getD_cons_succ, xIf_true, xIf_false, FA_40_0, FA_40_1, FA_64_0, FA_64_1, FA_64_2, FA_67_0, FA_67_1, FA_67_2, FA_67_3, FA_75_0, FA_75_1, FA_75_2, FA_75_3, FA_82_0, FA_82_1, FA_82_2, FA_96_0, FA_96_1, FA_96_2, FA_123_0, FA_123_1, FA_123_2, LEN_34, LEN_38, LEN_51, LEN_56, LEN_60, LEN_65, LEN_83, LEN_88]
    rw [wrap64 (by omega) (by omega)]
    exact ⟨rfl, rfl⟩

theorem search_ok {n g : Nat} {cap : Array Value} {f : Nat → Bool} {w : World} (hg : calleeB Tryd.prog g = true) (hn : n ≤ 4611686018427387904)
    (hcall : ∀ i, i < n → ∀ w', Kept [] w w' → Gives Tryd.prog g (#[] ++ #[.int .i64 i] ++ cap) w' fun u w'' => u = .bool (f i) ∧ Kept [] w' w'') :
    Gives Tryd.prog 62 #[.int .i64 n, .func (.func g) #[] cap] w fun u w' => ∃ m : Nat, u = .int .i64 m ∧ m ≤ n ∧ (m < n → f m = true) ∧ (0 < m → f (m - 1) = false) ∧ Kept [] w w' := by
  refine C_sort_Search ?_
  unfold S_sort_Search
  refine xLoop_of (fun vs w' => ∃ i j : Nat, vs = [.int .i64 i, .int .i64 j] ∧ i ≤ j ∧ j ≤ n ∧ (j < n → f j = true) ∧ (0 < i → f (i - 1) = false) ∧ Kept [] w w')
    (fun vs _ => match vs with | [.int _ i, .int _ j] => (j - i).toNat | _ => 0) ⟨0, n, rfl, by omega, by omega, by omega, by omega, Kept.refl _ _⟩ ?_
  rintro _ _ w1 ⟨i, j, rfl, hij, hj, hfj, hfi, hkept⟩
  simp only [xP_nil, xP_pick, xP_func, xP_not, xP_add, xP_sub, xP_mul, xP_lss, xP_leq, xP_gtr, xP_geq, xP_max2, xP_min2, xR_eql, xR_neq, Nat.zero_add, Nat.add_zero, Nat.reduceAdd, List.getD_cons_zero, List.getD_cons_succ, xIf_true, xIf_false, FA_40_0, FA_40_1, FA_64_0, FA_64_1, FA_64_2, FA_67_0, FA_67_1, FA_67_2, FA_67_3, FA_75_0, FA_75_1, FA_75_2, FA_75_3, FA_82_0, FA_82_1, FA_82_2, FA_96_0, FA_96_1, FA_96_2, FA_123_0, FA_123_1, FA_123_2, LEN_34, LEN_38, LEN_51, LEN_56, LEN_60, LEN_65, LEN_83, LEN_88, xIf_dec]
  refine ⟨fun hlt => ?_, fun hge => ?_⟩
  · rw [wrap64 (by omega) (by omega)]
    refine (xP_conv INT_3 INT_133).2 ?_
    rw [wrapU64 (by omega) (by omega)]
    refine (xP_shr (by omega)).2 ?_
    refine (xP_conv INT_133 INT_3).2 ?_
    have e : ((i : Int) + (j : Int)) / 2 ^ min (Int.toNat 1) IntKind.u64.bits = (((i + j) / 2 : Nat) : Int) := by
      show ((i : Int) + (j : Int)) / 2 = _
      omega
    rw [e, wrap64 (by omega) (by omega)]
    refine xE_callV hg (hcall ((i + j) / 2) (by omega) w1 hkept) ?_
    rintro _ w2 ⟨rfl, hk2⟩
    have hk3 : Kept [] w w2 := hkept.then hk2 (by simp)
    try simp only [xP_nil, xP_pick, xP_func, xP_not, xP_add, xP_sub, xP_mul, xP_lss, xP_leq, xP_gtr, xP_geq, xP_max2, xP_min2, xR_eql, xR_neq, Nat.zero_add, Nat.add_zero, Nat.reduceAdd, List.getD_cons_zero, List.getD_cons_succ, xIf_true, xIf_false, FA_40_0, FA_40_1, FA_64_0, FA_64_1, FA_64_2, FA_67_0, FA_67_1, FA_67_2, FA_67_3, FA_75_0, FA_75_1, FA_75_2, FA_75_3, FA_82_0, FA_82_1, FA_82_2, FA_96_0, FA_96_1, FA_96_2, FA_123_0, FA_123_1, FA_123_2, LEN_34, LEN_38, LEN_51, LEN_56, LEN_60, LEN_65, LEN_83, LEN_88]
    simp only [xIf_bool]
    refine ⟨fun hf => ?_, fun hf => ?_⟩
    · rw [wrap64 (by omega) (by omega)]
      refine ⟨⟨(i + j) / 2 + 1, j, rfl, by omega, hj, hfj, fun _ => ?_, hk3⟩, ?_⟩
      · simpa using hf
      · omega
    · refine ⟨⟨i, (i + j) / 2, rfl, by omega, by omega, fun _ => by simpa using hf, hfi, hk3⟩, ?_⟩
      omega
  · obtain rfl : i = j := by omega
    exact ⟨i, rfl, hj, hfj, hfi, hkept⟩

/-! ## Seek -/
/-- Heads that stand one behind the other, from 0 on. -/
def Sorted (hs : List Hd) : Prop := ∀ (i j : Nat) (hi hj : Hd), i < j → hs[i]? = some hi → hs[j]? = some hj → hi.base + hi.count ≤ hj.base
def Ranged (hs : List Hd) : Prop := ∀ h ∈ hs, 0 ≤ h.base ∧ 1 ≤ h.count ∧ h.base + h.count ≤ 9223372036854775807
def has (o : Int) (h : Hd) : Bool := decide (o - h.base < h.count)

theorem findIdx_skip {α : Type} {p : α → Bool} (l : List α) (k : Nat) (hk : k ≤ l.length) (h : ∀ i x, i < k → l[i]? = some x → p x = false) : k + (l.drop k).findIdx p = l.findIdx p := by
  induction k generalizing l with
  | zero => simp
  | succ k ih =>
    cases l with
    | nil => simp at hk
    | cons x l =>
      have h0 := h 0 x (by omega) (by simp)
      have := ih l (by simpa using hk) (fun i y hi hy => h (i + 1) y (by omega) (by simpa using hy))
      rw [List.drop_succ_cons, List.findIdx_cons, h0, ← this]
      simp
      omega

theorem marks_len {ms : List Int} {hs : List Hd} {every : Nat} (hm : ∀ i : Nat, ms[i]? = (hs[i * every]?).map Hd.base) (he : 1 ≤ every) : ms.length ≤ hs.length := by
  rcases Nat.eq_zero_or_pos ms.length with h | h
  · omega
  · have h1 := hm (ms.length - 1)
    rw [List.getElem?_eq_getElem (by omega)] at h1
    cases hh : hs[(ms.length - 1) * every]? with
    | none => rw [hh] at h1; simp at h1
    | some x =>
      have := (List.getElem?_eq_some_iff.1 hh).1
      have : (ms.length - 1) * 1 ≤ (ms.length - 1) * every := Nat.mul_le_mul_left _ he
      omega

theorem seek_ok {o : Int} {w : World} {b every : Nat} {hs : List Hd} {F : List Nat} (h : Ix w b every hs F) (hlen : hs.length ≤ 1000000) (hs1 : Sorted hs) (hs2 : Ranged hs) (ho : hs ≠ [] → 0 ≤ o ∧ o ≤ 9223372036854775807) :
    Gives Tryd.prog 50 #[.pointer (some ⟨b, 0, none⟩), .int .i64 o] w fun v w' => v = .int .i64 (hs.findIdx (has o) : Nat) ∧ Kept [] w w' := by
  obtain ⟨lv, mv, ms, Fl, Fm, h1, h2, h3, h4, h5, h6, h7, h8, h9, rfl⟩ := h
  have hml := marks_len h4 h5
  refine C_index_Index_Seek ?_
  unfold S_index_Index_Seek
  refine xE_box fun w1 hb1 hk1 hz1 => ?_
  refine xE_box fun w2 hb2 hk2 hz2 => ?_
  have hk12 : Kept [] w w2 := hk1.then hk2 (by simp)
  have hb1' := hb1.kept hk2 (by simp)
  have h1' := h1.kept hk12 (by simp)
  refine (ld1 ONE_93 hb1'.cell).2 ?_
  try simp only [xP_nil, xP_pick, xP_func, xP_not, xP_add, xP_sub, xP_mul, xP_lss, xP_leq, xP_gtr, xP_geq, xP_max2, xP_min2, xR_eql, xR_neq, Nat.zero_add, Nat.add_zero, Nat.reduceAdd, List.getD_cons_zero, List.getD_cons_succ, xIf_true, xIf_false, FA_40_0, FA_40_1, FA_64_0, FA_64_1, FA_64_2, FA_67_0, FA_67_1, FA_67_2, FA_67_3, FA_75_0, FA_75_1, FA_75_2, FA_75_3, FA_82_0, FA_82_1, FA_82_2, FA_96_0, FA_96_1, FA_96_2, FA_123_0, FA_123_1, FA_123_2, LEN_34, LEN_38, LEN_51, LEN_56, LEN_60, LEN_65, LEN_83, LEN_88]
  refine (ld1 ONE_56 h1'.cell).2 ?_
  have hmsl := h3.slT encI_len (by omega)
  have hmsl' := hmsl
  obtain ⟨ma, mc, rfl, _⟩ := hmsl
  try simp only [xP_nil, xP_pick, xP_func, xP_not, xP_add, xP_sub, xP_mul, xP_lss, xP_leq, xP_gtr, xP_geq, xP_max2, xP_min2, xR_eql, xR_neq, Nat.zero_add, Nat.add_zero, Nat.reduceAdd, List.getD_cons_zero, List.getD_cons_succ, xIf_true, xIf_false, FA_40_0, FA_40_1, FA_64_0, FA_64_1, FA_64_2, FA_67_0, FA_67_1, FA_67_2, FA_67_3, FA_75_0, FA_75_1, FA_75_2, FA_75_3, FA_82_0, FA_82_1, FA_82_2, FA_96_0, FA_96_1, FA_96_2, FA_123_0, FA_123_1, FA_123_2, LEN_34, LEN_38, LEN_51, LEN_56, LEN_60, LEN_65, LEN_83, LEN_88]
  refine xE_call CF_62 (search_ok (f := fun i => decide (o < ms.getD i 0)) CF_63 (by omega) (fun i hi w' hk' => ?_)) ?_
  · have hk3 : Kept [] w w' := hk12.then hk' (by simp)
    refine (seek1_ok (hb1'.kept hk' (by simp)) (hb2.kept hk' (by simp)) (h1.kept hk3 (by simp)) (hmsl'.kept0 hk3) hi).mono (fun v w'' ⟨e, k⟩ => ⟨by rw [e]; simp [hi], k⟩)
  rintro _ w3 ⟨m, rfl, hmn, hm1, hm2, hk3⟩
  have hk23 : Kept [] w w3 := hk12.then hk3 (by simp)
  refine (ld1 ONE_93 (blk_drew (hb1'.kept hk3 (by simp))).cell).2 ?_
  try simp only [xP_nil, xP_pick, xP_func, xP_not, xP_add, xP_sub, xP_mul, xP_lss, xP_leq, xP_gtr, xP_geq, xP_max2, xP_min2, xR_eql, xR_neq, Nat.zero_add, Nat.add_zero, Nat.reduceAdd, List.getD_cons_zero, List.getD_cons_succ, xIf_true, xIf_false, FA_40_0, FA_40_1, FA_64_0, FA_64_1, FA_64_2, FA_67_0, FA_67_1, FA_67_2, FA_67_3, FA_75_0, FA_75_1, FA_75_2, FA_75_3, FA_82_0, FA_82_1, FA_82_2, FA_96_0, FA_96_1, FA_96_2, FA_123_0, FA_123_1, FA_123_2, LEN_34, LEN_38, LEN_51, LEN_56, LEN_60, LEN_65, LEN_83, LEN_88]
  rw [wrap64 (by omega) (by omega)]
  refine (ld1 ONE_93 (blk_drew (hb1'.kept hk3 (by simp))).cell).2 ?_
  try simp only [xP_nil, xP_pick, xP_func, xP_not, xP_add, xP_sub, xP_mul, xP_lss, xP_leq, xP_gtr, xP_geq, xP_max2, xP_min2, xR_eql, xR_neq, Nat.zero_add, Nat.add_zero, Nat.reduceAdd, List.getD_cons_zero, List.getD_cons_succ, xIf_true, xIf_false, FA_40_0, FA_40_1, FA_64_0, FA_64_1, FA_64_2, FA_67_0, FA_67_1, FA_67_2, FA_67_3, FA_75_0, FA_75_1, FA_75_2, FA_75_3, FA_82_0, FA_82_1, FA_82_2, FA_96_0, FA_96_1, FA_96_2, FA_123_0, FA_123_1, FA_123_2, LEN_34, LEN_38, LEN_51, LEN_56, LEN_60, LEN_65, LEN_83, LEN_88]
  refine (ld1 ONE_3 (blk_drew (h1.kept hk23 (by simp))).cell).2 ?_
  try simp only [xP_nil, xP_pick, xP_func, xP_not, xP_add, xP_sub, xP_mul, xP_lss, xP_leq, xP_gtr, xP_geq, xP_max2, xP_min2, xR_eql, xR_neq, Nat.zero_add, Nat.add_zero, Nat.reduceAdd, List.getD_cons_zero, List.getD_cons_succ, xIf_true, xIf_false, FA_40_0, FA_40_1, FA_64_0, FA_64_1, FA_64_2, FA_67_0, FA_67_1, FA_67_2, FA_67_3, FA_75_0, FA_75_1, FA_75_2, FA_75_3, FA_82_0, FA_82_1, FA_82_2, FA_96_0, FA_96_1, FA_96_2, FA_123_0, FA_123_1, FA_123_2, LEN_34, LEN_38, LEN_51, LEN_56, LEN_60, LEN_65, LEN_83, LEN_88]
  -- where the look begins
  have hstart : (m - 1) * every ≤ hs.length := by
    rcases Nat.eq_zero_or_pos m with h0 | h0
    · subst h0; simp
    · have h1 := h4 (m - 1)
      rw [List.getElem?_eq_getElem (by omega)] at h1
      cases hh : hs[(m - 1) * every]? with
      | none => rw [hh] at h1; simp at h1
      | some x => exact Nat.le_of_lt (List.getElem?_eq_some_iff.1 hh).1
  have e1 : max ((m : Int) - 1) 0 = ((m - 1 : Nat) : Int) := by omega
  have e2 : (((m - 1 : Nat) : Int) * (every : Int)) = (((m - 1) * every : Nat) : Int) := by simp
  rw [e1, e2, wrap64 (by omega) (by omega)]
  refine xE_call CF_64 (first_ok (p := fun h => decide (IntKind.i64.wrap (o - h.base) < h.count)) CF_65 (blk_drew (h1.kept hk23 (by simp))) ((h2.slT encH_len (by omega)).kept0 hk23.drew) (by omega) hstart
    (fun h hm w' hk' => seek2_ok ((blk_drew ((hb2.kept hk3 (by simp)))).kept hk' (by simp)))) ?_
  rintro _ w4 ⟨rfl, hk4⟩
  refine ⟨?_, hk23.drew.then hk4 (by simp)⟩
  by_cases hnil : hs = []
  · subst hnil
    simp at hstart ⊢
    omega
  have ho' := ho hnil
  have hwrap : ∀ x ∈ hs, IntKind.i64.wrap (o - x.base) = o - x.base := fun x hx => by
    have := hs2 x hx
    exact wrap64 (by omega) (by omega)
  have hcongr : ∀ l : List Hd, (∀ x ∈ l, x ∈ hs) → l.findIdx (fun h => decide (IntKind.i64.wrap (o - h.base) < h.count)) = l.findIdx (has o) := by
    intro l
    induction l with
    | nil => intro _; rfl
    | cons x l ih =>
      intro hl
      rw [List.findIdx_cons, List.findIdx_cons, ih (fun y hy => hl y (List.mem_cons_of_mem _ hy))]
      unfold has
      rw [hwrap x (hl x List.mem_cons_self)]
  rw [hcongr _ (fun x hx => List.mem_of_mem_drop hx)]
  congr 2
  refine findIdx_skip hs _ hstart (fun i x hi hx => ?_)
  have hm0 : 0 < m := by
    rcases Nat.eq_zero_or_pos m with h0 | h0
    · subst h0; simp at hi
    · exact h0
  have hmk := h4 (m - 1)
  have hlt := hm2 hm0
  rw [List.getElem?_eq_getElem (by omega)] at hmk
  cases hh : hs[(m - 1) * every]? with
  | none => rw [hh] at hmk; simp at hmk
  | some y =>
    rw [hh] at hmk
    simp at hmk
    have hle : y.base ≤ o := by
      simp only [List.getD_eq_getElem?_getD, List.getElem?_eq_getElem (show m - 1 < ms.length by omega), Option.getD_some, hmk] at hlt
      simpa using hlt
    have := hs1 i _ x y hi hx hh
    unfold has
    simp
    omega
end Go.Proofs.YtjajjblppogfoaaDoor
