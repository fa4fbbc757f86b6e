import Derived.Test.YtoanmeohlpdjfaaDoorXCopy2
namespace Go.X
set_option linter.unusedSimpArgs false
set_option linter.unusedVariables false
open Go Go.RowKit

section
variable {α : Type} {P : Program} {w : World} {K : Value → World → Prop} {T E I : TypeId} {sz bytes m : Nat} {z v v' : Value} {enc : α → List Value} {l l' : List α}
theorem Src.ofSlTm {tx e' : TypeId} {l : List α} (hk : P.underlying tx = some (.slice e')) (hsl : SlT w enc v l) (hlen : ∀ x, (enc x).length = sz) (h1 : ∀ x ∈ l, ∀ u ∈ enc x, u.oneCell' = true) : Src P sz tx v l.length (l.flatMap enc) w := by
  obtain ⟨a, c, rfl, hc, hr⟩ := hsl
  have one : ∀ u ∈ l.flatMap enc, u.oneCell' = true := fun u hu => by
    obtain ⟨x, hxl, hx⟩ := List.mem_flatMap.1 hu
    exact h1 x hxl u hx
  cases a with
  | none =>
    have : l = [] := by
      rcases hr with h | ⟨b, o, h, _⟩
      · exact h
      · cases h
    subst this
    exact Src.ofNil w hk c
  | some a =>
    refine Src.ofSlice w hk a _ _ _ (flat_len hlen l) (fun j u hj => ?_) one
    rcases hr with rfl | ⟨b, o, ha, hat⟩
    · simp at hj
    · cases ha
      rw [add_none, hat j (List.getElem?_eq_some_iff.1 hj).1, hj]
/-- append(append([]T{}, l...), l'...) -/
theorem xE_join0 (he : ElemB P T E sz bytes z) (hl : ∀ x, (enc x).length = sz) (h1 : ∀ x ∈ l, ∀ u ∈ enc x, u.oneCell' = true) (h1' : ∀ x ∈ l', ∀ u ∈ enc x, u.oneCell' = true) (hv : SlT w enc v l) (hv' : SlT w enc v' l') (hb : bytes ≤ 1000) (h63 : l.length + l'.length ≤ 1000000000)
    (k : ∀ u w' F, Own w' E sz u (l ++ l').length ((l ++ l').flatMap enc) F → (∀ g ∈ F, w.heap.size ≤ g) → Kept [] w w' → K u w') :
    xE P (sBuildSlice T 0 #[]) w fun a w1 => xE P (sB .append #[T, T] #[a, v]) w1 fun u w2 => xE P (sB .append #[T, T] #[u, v']) w2 fun u' w' => K u' w' := by
  have hb1 : l.length * bytes ≤ l.length * 1000 := Nat.mul_le_mul_left _ hb
  have hb2 : (l.length + l'.length) * bytes ≤ (l.length + l'.length) * 1000 := Nat.mul_le_mul_left _ hb
  refine xE_slice0 he fun w1 ho1 hk1 hz1 => ?_
  refine xE_appendSrc he ho1 (Src.ofSlTm (sliceB_spec he.sl) (hv.kept0 hk1) hl h1) (by rw [Nat.zero_add]; omega) (by rw [Nat.zero_add]; unfold maxLen; omega) fun u w2 F2 ho2 hk2 hF2 _ => ?_
  rw [Nat.zero_add, List.nil_append] at ho2
  have hk02 : Kept [] w w2 := hk1.then hk2 (by intro k hk; simp at hk; subst hk; exact .inr (Nat.le_refl _))
  have hF02 : ∀ g ∈ F2, w.heap.size ≤ g := fun g hg => by
    rcases hF2 g hg with h | h
    · simp at h; omega
    · omega
  refine xE_appendSrc he ho2 (Src.ofSlTm (sliceB_spec he.sl) (hv'.kept0 hk02) hl h1') (by omega) (by unfold maxLen; omega) fun u3 w3 F3 ho3 hk3 hF3 _ => ?_
  rw [← List.flatMap_append, ← List.length_append] at ho3
  refine k u3 w3 F3 ho3 (fun g hg => ?_) (hk02.then hk3 (fun g hg => .inr (hF02 g hg)))
  rcases hF3 g hg with h | h
  · exact hF02 g h
  · have := hk02.size; omega
end
end Go.X
