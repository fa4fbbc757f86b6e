import Derived.Test.YtbfaglbfpmnnmaaDoorXStr
namespace Go.X
set_option linter.unusedSimpArgs false
set_option linter.unusedVariables false
open Go Go.RowKit

/-! ## Functions of Go's library and of the statements' books, once for all types -/
structure RowB {α : Type} (P : Program) (T E : TypeId) (sz : Nat) (enc : α → List Value) (val : α → Value) : Prop where
  sl : sliceB P T E = true
  size : sizeB P E sz = true
  len : ∀ x, (enc x).length = sz
  load : ∀ {w : World} {b o : Nat} {x : α} {K : Value → Prop}, At w b o (enc x) → (xR P (sLoad E (.pointer (some ⟨b, o, none⟩))) w K ↔ K (val x))
theorem RowB.one {α : Type} {P : Program} {T E : TypeId} {val : α → Value} (h : sliceB P T E = true) (h1 : sizeB P E 1 = true) (h2 : oneB P E = true) : RowB P T E 1 (fun x => [val x]) val :=
  ⟨h, h1, fun _ => rfl, fun hat => ld1 h2 (at_one hat)⟩
theorem RowB.agg {α : Type} {P : Program} {T E : TypeId} {sz : Nat} {enc : α → List Value} (h : sliceB P T E = true) (h1 : sizeB P E sz = true) (hl : ∀ x, (enc x).length = sz) (h2 : aggB P E sz = true) : RowB P T E sz enc (fun x => .agg (enc x).toArray) :=
  ⟨h, h1, hl, fun {_ _ _ x _} hat => ldN (l := enc x) (by rw [hl]; exact h2) hat⟩

section
variable {α : Type} {P : Program} {T E I : TypeId} {sz : Nat} {enc : α → List Value} {val : α → Value} {w : World} {R : Ending → World → Prop}

/-- An element is read. -/
theorem RowB.get (hr : RowB P T E sz enc val) {l : List α} {w' : World} {a0 : Value} {i : Nat} (hsl : SlT w enc a0 l) (hk : Kept [] w w') (hi : i < l.length) {K : Value → Prop} {q : IntKind} :
    (xP P (sIA T a0 (.int q i)) fun v => xR P (sLoad E v) w' K) ↔ K (val l[i]) := by
  obtain ⟨a, c, rfl, hc, h⟩ := hsl
  obtain ⟨b, o, rfl, hat⟩ := h.resolve_left (by intro h; subst h; simp at hi)
  rw [xP_IAn hr.sl hr.size hi]
  exact hr.load ((at_elem hr.len hat (List.getElem?_eq_getElem hi)).kept hk (by simp))

theorem xIndexFunc (hr : RowB P T E sz enc val) {p : α → Bool} {l : List α} {a0 : Value} {g : Nat} {cap : Array Value} (hg : calleeB P g = true) (hsl : SlT w enc a0 l) (hlen : l.length ≤ 9223372036854775806)
    (hcall : ∀ x ∈ l, ∀ w', Kept [] w w' → Gives P g (#[] ++ #[val x] ++ cap) w' fun u w'' => u = .bool (p x) ∧ Kept [] w' w'')
    (k : ∀ w', Kept [] w w' → R (.returned (.int .i64 (if l.findIdx p < l.length then (l.findIdx p : Int) else -1))) w') :
    (xP P (sB .len #[T] #[a0]) fun v7_1 =>
    xLoop [(.int .i64 0)] w fun J2 vs3 _ w5 =>
      xP P (sBin .lss I (vs3.getD 0 undef) v7_1) fun v9_6 =>
      xIf v9_6 (
        xP P (sIA T a0 (vs3.getD 0 undef)) fun v14_7 =>
      xR P (sLoad E v14_7) w5 fun v15_8 =>
      xE P (sCallV (.func (.func g) #[] cap) #[v15_8]) w5 fun v16_9 w10 =>
      xIf v16_9 (
        R (.returned (vs3.getD 0 undef)) w10) (
        xP P (sBin .add I (vs3.getD 0 undef) (.int .i64 1)) fun v18_11 =>
      J2 [v18_11] w10)) (
        R (.returned (.int .i64 (-1))) w5)) := by
  obtain ⟨a, c, rfl, hc, hrow⟩ := hsl
  refine (xP_len hr.sl).2 ?_
  refine xLoop_of (fun vs w' => ∃ k : Nat, vs = [.int .i64 k] ∧ k ≤ l.length ∧ (∀ j, j < k → ∀ h, l[j]? = some h → p h = false) ∧ Kept [] w w') (fun vs _ => match vs with | [.int _ k] => l.length - k.toNat | _ => 0) ⟨0, rfl, by omega, by omega, Kept.refl _ _⟩ ?_
  rintro _ _ w1 ⟨k', rfl, hk, hbefore, hkept⟩
  simp only [xP_nil, xP_pick, xP_func, xP_not, xP_add, xP_sub, xP_mul, xP_lss, xP_leq, xP_gtr, xP_geq, xP_max2, xP_min2, xR_eql, xR_neq, Nat.zero_add, Nat.add_zero, Nat.reduceAdd, List.getD_cons_zero, List.getD_cons_succ, xIf_true, xIf_false, xIf_dec]
  refine ⟨fun hlt => ?_, fun hge => ?_⟩
  · have hlt' : k' < l.length := by omega
    refine (hr.get ⟨a, c, rfl, hc, hrow⟩ hkept hlt').2 ?_
    refine xE_callV hg (hcall l[k'] (List.getElem_mem hlt') w1 hkept) ?_
    rintro _ w2 ⟨rfl, hk2⟩
    have hk3 : Kept [] w w2 := hkept.then hk2 (by simp)
    simp only [xIf_bool]
    refine ⟨fun hp => ?_, fun hp => ?_⟩
    · have : l.findIdx p = k' := (List.findIdx_eq hlt').2 ⟨hp, fun j hj => hbefore j hj _ (List.getElem?_eq_getElem (by omega))⟩
      have := k w2 hk3
      rwa [‹l.findIdx p = k'›, if_pos hlt'] at this
    · refine ⟨⟨k' + 1, ?_, hlt', ?_, hk3⟩, ?_⟩
      · rw [wrap64 (by omega) (by omega)]; rfl
      · intro j hj h hh
        by_cases hjk : j < k'
        · exact hbefore j hjk h hh
        · obtain rfl : j = k' := by omega
          rw [List.getElem?_eq_getElem hlt'] at hh
          cases hh
          exact hp
      · rw [wrap64 (by omega) (by omega)]
        omega
  · have : l.findIdx p = l.length := List.findIdx_eq_length_of_false (fun h hm => by
      obtain ⟨j, hj, rfl⟩ := List.getElem_of_mem hm
      exact hbefore j (by omega) _ (List.getElem?_eq_getElem hj))
    have := k w1 hkept
    rwa [‹l.findIdx p = l.length›, if_neg (by omega)] at this

theorem xIndex (hr : RowB P T E sz enc val) {p : α → Bool} {l : List α} {a0 a1 : Value} (hsl : SlT w enc a0 l) (hlen : l.length ≤ 9223372036854775806)
    (hcmp : ∀ x ∈ l, ∀ w' (K : Value → Prop), xR P (sEq .eql E false a1 (val x)) w' K ↔ K (.bool (p x)))
    (k : ∀ w', Kept [] w w' → R (.returned (.int .i64 (if l.findIdx p < l.length then (l.findIdx p : Int) else -1))) w') :
    (xP P (sB .len #[T] #[a0]) fun v7_1 =>
    xLoop [(.int .i64 0)] w fun J2 vs3 _ w5 =>
      xP P (sBin .lss I (vs3.getD 0 undef) v7_1) fun v9_6 =>
      xIf v9_6 (
        xP P (sIA T a0 (vs3.getD 0 undef)) fun v14_7 =>
      xR P (sLoad E v14_7) w5 fun v15_8 =>
      xR P (sEq .eql E false a1 v15_8) w5 fun v16_9 =>
      xIf v16_9 (
        R (.returned (vs3.getD 0 undef)) w5) (
        xP P (sBin .add I (vs3.getD 0 undef) (.int .i64 1)) fun v18_10 =>
      J2 [v18_10] w5)) (
        R (.returned (.int .i64 (-1))) w5)) := by
  obtain ⟨a, c, rfl, hc, hrow⟩ := hsl
  refine (xP_len hr.sl).2 ?_
  refine xLoop_of (fun vs w' => ∃ k : Nat, vs = [.int .i64 k] ∧ k ≤ l.length ∧ (∀ j, j < k → ∀ h, l[j]? = some h → p h = false) ∧ Kept [] w w') (fun vs _ => match vs with | [.int _ k] => l.length - k.toNat | _ => 0) ⟨0, rfl, by omega, by omega, Kept.refl _ _⟩ ?_
  rintro _ _ w1 ⟨k', rfl, hk, hbefore, hkept⟩
  simp only [xP_nil, xP_pick, xP_func, xP_not, xP_add, xP_sub, xP_mul, xP_lss, xP_leq, xP_gtr, xP_geq, xP_max2, xP_min2, xR_eql, xR_neq, Nat.zero_add, Nat.add_zero, Nat.reduceAdd, List.getD_cons_zero, List.getD_cons_succ, xIf_true, xIf_false, xIf_dec]
  refine ⟨fun hlt => ?_, fun hge => ?_⟩
  · have hlt' : k' < l.length := by omega
    refine (hr.get ⟨a, c, rfl, hc, hrow⟩ hkept hlt').2 ?_
    refine (hcmp l[k'] (List.getElem_mem hlt') w1 _).2 ?_
    simp only [xIf_bool]
    refine ⟨fun hp => ?_, fun hp => ?_⟩
    · have : l.findIdx p = k' := (List.findIdx_eq hlt').2 ⟨hp, fun j hj => hbefore j hj _ (List.getElem?_eq_getElem (by omega))⟩
      have := k w1 hkept
      rwa [‹l.findIdx p = k'›, if_pos hlt'] at this
    · refine ⟨⟨k' + 1, ?_, hlt', ?_, hkept⟩, ?_⟩
      · rw [wrap64 (by omega) (by omega)]; rfl
      · intro j hj h hh
        by_cases hjk : j < k'
        · exact hbefore j hjk h hh
        · obtain rfl : j = k' := by omega
          rw [List.getElem?_eq_getElem hlt'] at hh
          cases hh
          exact hp
      · rw [wrap64 (by omega) (by omega)]
        omega
  · have : l.findIdx p = l.length := List.findIdx_eq_length_of_false (fun h hm => by
      obtain ⟨j, hj, rfl⟩ := List.getElem_of_mem hm
      exact hbefore j (by omega) _ (List.getElem?_eq_getElem hj))
    have := k w1 hkept
    rwa [‹l.findIdx p = l.length›, if_neg (by omega)] at this

/-- Is one there? -/
theorem found {l : List α} {p : α → Bool} : decide ((0 : Int) ≤ if l.findIdx p < l.length then (l.findIdx p : Int) else -1) = l.any p := by
  by_cases h : l.findIdx p < l.length
  · rw [if_pos h]
    have := List.findIdx_getElem (w := h)
    have h2 : l.any p = true := List.any_eq_true.2 ⟨_, List.getElem_mem h, this⟩
    rw [h2]
    simp
  · rw [if_neg h]
    have h2 : l.any p = false := by
      rw [List.any_eq_false]
      intro x hx
      intro hp
      exact h (List.findIdx_lt_length_of_exists ⟨x, hx, hp⟩)
    rw [h2]
    rfl

theorem xSame [DecidableEq α] (hr : RowB P T E sz enc val) {xs ys : List α} {a b : Value} (ha : SlT w enc a xs) (hb : SlT w enc b ys) (hl : xs.length ≤ 9223372036854775806)
    (hcmp : ∀ x y w' (K : Value → Prop), xR P (sEq .neq E false (val x) (val y)) w' K ↔ K (.bool (!decide (x = y))))
    (k : ∀ w', Kept [] w w' → R (.returned (.bool (decide (xs = ys)))) w') :
    (xP P (sB .len #[T] #[a]) fun v7_1 =>
    xP P (sB .len #[T] #[b]) fun v9_2 =>
    xR P (sEq .neq I false v7_1 v9_2) w fun v10_3 =>
    xIf v10_3 (
      R (.returned (.bool false)) w) (
      xLoop [(.int .i64 0)] w fun J4 vs5 _ w7 =>
      xP P (sB .len #[T] #[a]) fun v13_8 =>
      xP P (sBin .lss I (vs5.getD 0 undef) v13_8) fun v14_9 =>
      xIf v14_9 (
        xP P (sIA T a (vs5.getD 0 undef)) fun v19_10 =>
      xR P (sLoad E v19_10) (w7.drew) fun v20_11 =>
      xP P (sIA T b (vs5.getD 0 undef)) fun v23_12 =>
      xR P (sLoad E v23_12) (w7.drew) fun v24_13 =>
      xR P (sEq .neq E false v20_11 v24_13) (w7.drew) fun v25_14 =>
      xIf v25_14 (
        R (.returned (.bool false)) (w7.drew)) (
        xP P (sBin .add I (vs5.getD 0 undef) (.int .i64 1)) fun v16_15 =>
      J4 [v16_15] (w7.drew))) (
        R (.returned (.bool true)) w7))) := by
  obtain ⟨aa, ac, rfl, hac, har⟩ := ha
  obtain ⟨ba, bc, rfl, hbc, hbr⟩ := hb
  refine (xP_len hr.sl).2 ?_
  refine (xP_len hr.sl).2 ?_
  simp only [xP_nil, xP_pick, xP_func, xP_not, xP_add, xP_sub, xP_mul, xP_lss, xP_leq, xP_gtr, xP_geq, xP_max2, xP_min2, xR_eql, xR_neq, Nat.zero_add, Nat.add_zero, Nat.reduceAdd, List.getD_cons_zero, List.getD_cons_succ, xIf_true, xIf_false, xIf_dec]
  have done : ∀ (b : Bool) w', b = decide (xs = ys) → Kept [] w w' → R (.returned (.bool b)) w' := fun b w' h hk => h ▸ k w' hk
  refine ⟨fun hne => done _ _ ?_ (Kept.refl _ _), fun heq => ?_⟩
  · symm
    simp only [decide_eq_false_iff_not]
    intro h; subst h; exact hne rfl
  · have hle : xs.length = ys.length := by
      rcases Nat.lt_trichotomy xs.length ys.length with h | h | h
      · exact absurd (show ((xs.length : Nat) : Int) ≠ (ys.length : Nat) by omega) heq
      · exact h
      · exact absurd (show ((xs.length : Nat) : Int) ≠ (ys.length : Nat) by omega) heq
    refine xLoop_of (fun vs w' => ∃ i : Nat, vs = [.int .i64 i] ∧ i ≤ xs.length ∧ (∀ j, j < i → xs[j]? = ys[j]?) ∧ Kept [] w w') (fun vs _ => match vs with | [.int _ k] => xs.length - k.toNat | _ => 0) ⟨0, rfl, by omega, by omega, Kept.refl _ _⟩ ?_
    rintro _ _ w1 ⟨i, rfl, hi, hbef, hk⟩
    refine (xP_len hr.sl).2 ?_
    simp only [xP_nil, xP_pick, xP_func, xP_not, xP_add, xP_sub, xP_mul, xP_lss, xP_leq, xP_gtr, xP_geq, xP_max2, xP_min2, xR_eql, xR_neq, Nat.zero_add, Nat.add_zero, Nat.reduceAdd, List.getD_cons_zero, List.getD_cons_succ, xIf_true, xIf_false, xIf_dec]
    refine ⟨fun hlt => ?_, fun hge => ?_⟩
    · have hx : i < xs.length := by omega
      have hy : i < ys.length := by omega
      refine (hr.get ⟨aa, ac, rfl, hac, har⟩ hk.drew hx).2 ?_
      refine (hr.get ⟨ba, bc, rfl, hbc, hbr⟩ hk.drew hy).2 ?_
      refine (hcmp _ _ _ _).2 ?_
      simp only [xIf_bool, Bool.not_eq_true', decide_eq_false_iff_not, Bool.not_eq_false', decide_eq_true_eq]
      refine ⟨fun hne => done _ _ ?_ hk.drew, fun he => ?_⟩
      · symm
        simp only [decide_eq_false_iff_not]
        intro h; subst h; exact hne rfl
      · rw [wrap64 (by omega) (by omega)]
        refine ⟨⟨i + 1, rfl, hx, fun j hj => ?_, hk.drew⟩, by omega⟩
        by_cases hji : j < i
        · exact hbef j hji
        · obtain rfl : j = i := by omega
          rw [List.getElem?_eq_getElem hx, List.getElem?_eq_getElem hy, he]
    · refine done _ _ ?_ hk
      symm
      simp only [decide_eq_true_eq]
      refine List.ext_getElem? (fun j => ?_)
      by_cases hj : j < i
      · exact hbef j hj
      · rw [List.getElem?_eq_none (by omega), List.getElem?_eq_none (by omega)]
end

/-! ## Within -/
def within (n lo hi : Int) : Int := lo + n % (hi - lo + 1)
theorem within_bd {n lo hi : Int} (h : lo ≤ hi) : lo ≤ within n lo hi ∧ within n lo hi ≤ hi := by
  unfold within
  have h1 := Int.emod_nonneg n (show hi - lo + 1 ≠ 0 by omega)
  have h2 := Int.emod_lt_of_pos n (show 0 < hi - lo + 1 by omega)
  omega
theorem xWithin {P : Program} {I : TypeId} {w : World} {R : Ending → World → Prop} {n lo hi : Int} (h0 : -1152921504606846976 ≤ lo) (h1 : lo ≤ hi) (h2 : hi ≤ 4611686018427387904) (k : R (.returned (.int .i64 (within n lo hi))) w) :
    (xP P (sBin .sub I (.int .i64 hi) (.int .i64 lo)) fun v10_1 =>
    xP P (sBin .add I v10_1 (.int .i64 1)) fun v11_2 =>
    xP P (sBin .rem I (.int .i64 n) v11_2) fun v12_3 =>
    xJoin (fun J4 =>
      xP P (sBin .lss I v12_3 (.int .i64 0)) fun v14_5 =>
      xIf v14_5 (
        xP P (sBin .add I v12_3 (.int .i64 hi)) fun v17_6 =>
        xP P (sBin .sub I v17_6 (.int .i64 lo)) fun v19_7 =>
        xP P (sBin .add I v19_7 (.int .i64 1)) fun v20_8 =>
        J4 [v20_8] w) (
        J4 [v12_3] w)) fun vs9 _ w11 =>
    xP P (sBin .add I (.int .i64 lo) (vs9.getD 0 undef)) fun v23_12 =>
    R (.returned v23_12) w11) := by
  have e1 : IntKind.i64.wrap (hi - lo) = hi - lo := wrap64 (by omega) (by omega)
  have e2 : IntKind.i64.wrap (hi - lo + 1) = hi - lo + 1 := wrap64 (by omega) (by omega)
  simp only [xP_sub, xP_add, e1, e2]
  refine (xP_rem (by omega)).2 ?_
  have hm := Int.tmod_lt_of_pos n (show 0 < hi - lo + 1 by omega)
  have hm2 : -(hi - lo + 1) < n.tmod (hi - lo + 1) := by
    have := Int.lt_tmod_of_pos n (show 0 < hi - lo + 1 by omega)
    omega
  have hpos := Int.emod_nonneg n (show hi - lo + 1 ≠ 0 by omega)
  have hlt := Int.emod_lt_of_pos n (show 0 < hi - lo + 1 by omega)
  have hdvd : ∃ k : Int, n.tmod (hi - lo + 1) - n % (hi - lo + 1) = k * (hi - lo + 1) ∧ (k = 0 ∨ k = -1) := by
    by_cases hn : 0 ≤ n
    · exact ⟨0, by rw [Int.tmod_eq_emod_of_nonneg hn]; omega, .inl rfl⟩
    · have := Int.tmod_eq_emod (a := n) (b := hi - lo + 1)
      rw [this]
      split
      · exact ⟨0, by omega, .inl rfl⟩
      · refine ⟨-1, ?_, .inr rfl⟩
        have : ((hi - lo + 1).natAbs : Int) = hi - lo + 1 := by omega
        rw [this]
        omega
  refine xJoin_of (fun vs w' => vs = [.int .i64 (n % (hi - lo + 1))] ∧ w = w') ?_ ?_
  · simp only [xP_lss, xIf_dec]
    obtain ⟨k, hk, hk'⟩ := hdvd
    refine ⟨fun hneg => ?_, fun hge => ?_⟩
    · simp only [xP_add, xP_sub, and_true]
      have e3 : IntKind.i64.wrap (n.tmod (hi - lo + 1) + hi) = n.tmod (hi - lo + 1) + hi := wrap64 (by omega) (by omega)
      have e4 : IntKind.i64.wrap (n.tmod (hi - lo + 1) + hi - lo) = n.tmod (hi - lo + 1) + hi - lo := wrap64 (by omega) (by omega)
      have e5 : IntKind.i64.wrap (n.tmod (hi - lo + 1) + hi - lo + 1) = n.tmod (hi - lo + 1) + hi - lo + 1 := wrap64 (by omega) (by omega)
      rw [e3, e4, e5]
      congr 2
      rcases hk' with rfl | rfl <;> omega
    · simp only [and_true]
      congr 2
      rcases hk' with rfl | rfl <;> omega
  · rintro _ _ _ ⟨rfl, rfl⟩
    simp only [xP_nil, xP_pick, xP_func, xP_not, xP_add, xP_sub, xP_mul, xP_lss, xP_leq, xP_gtr, xP_geq, xP_max2, xP_min2, xR_eql, xR_neq, Nat.zero_add, Nat.add_zero, Nat.reduceAdd, List.getD_cons_zero, List.getD_cons_succ, xIf_true, xIf_false]
    rw [wrap64 (by omega) (by omega)]
    exact k
end Go.X
