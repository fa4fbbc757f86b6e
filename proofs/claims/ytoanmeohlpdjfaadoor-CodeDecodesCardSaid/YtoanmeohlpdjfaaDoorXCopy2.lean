import Derived.Test.YtoanmeohlpdjfaaDoorXB
namespace Go.X
set_option linter.unusedSimpArgs false
set_option linter.unusedVariables false
open Go Go.RowKit

section
variable {α : Type} {P : Program} {w : World} {K : Value → World → Prop} {T E I : TypeId} {sz bytes m : Nat} {z v : Value} {enc : α → List Value} {l : List α}
/-- append([]T{}, l...) -/
theorem xE_copy0 (he : ElemB P T E sz bytes z) (hl : ∀ x, (enc x).length = sz) (h1 : ∀ x, ∀ u ∈ enc x, u.oneCell' = true) (hv : SlT w enc v l) (hb : l.length * bytes ≤ 140737488355328) (h63 : l.length ≤ maxLen)
    (k : ∀ u w' F, Own w' E sz u l.length (l.flatMap enc) F → (∀ g ∈ F, w.heap.size ≤ g) → Kept [] w w' → K u w') :
    xE P (sBuildSlice T 0 #[]) w fun a w1 => xE P (sB .append #[T, T] #[a, v]) w1 fun u w' => K u w' := by
  refine xE_slice0 he fun w1 ho1 hk1 hz1 => ?_
  refine xE_appendSrc he ho1 (Src.ofSlT (sliceB_spec he.sl) (hv.kept0 hk1) hl h1) (by rwa [Nat.zero_add]) (by rwa [Nat.zero_add]) fun u w2 F2 ho2 hk2 hF2 _ => ?_
  rw [Nat.zero_add, List.nil_append] at ho2
  refine k u w2 F2 ho2 (fun g hg => ?_) (hk1.then hk2 (by intro k hk; simp at hk; subst hk; exact .inr (Nat.le_refl _)))
  rcases hF2 g hg with h | h
  · simp at h; omega
  · omega
/-- append([]T{}, l[:min(len(l), m)]...) -/
theorem xE_cut0 (he : ElemB P T E sz bytes z) (hl : ∀ x, (enc x).length = sz) (h1 : ∀ x, ∀ u ∈ enc x, u.oneCell' = true) (hv : SlT w enc v l) (hm : m ≤ 1000000) (hb : 1000000 * bytes ≤ 140737488355328)
    (k : ∀ u w' F, Own w' E sz u (l.take m).length ((l.take m).flatMap enc) F → (∀ g ∈ F, w.heap.size ≤ g) → Kept [] w w' → K u w') :
    xE P (sBuildSlice T 0 #[]) w fun a w1 => xP P (sB .len #[T] #[v]) fun v36 => xP P (sB .min #[I, I] #[v36, .int .i64 (m : Nat)]) fun v37 => xP P (sSlice T v none (some v37) none) fun v38 =>
      xE P (sB .append #[T, T] #[a, v38]) w1 fun u w' => K u w' := by
  refine xE_slice0 he fun w1 ho1 hk1 hz1 => ?_
  obtain ⟨ba, bc, rfl, hbc, hbr⟩ := hv
  rw [xP_len he.sl, xP_min2]
  have hmin : (min ((l.length : Nat) : Int) (m : Nat)).toNat ≤ l.length := by omega
  refine (xP_upto he.sl he.size (by omega) (by omega)).2 ?_
  have hsub := SlT.upto hl (SlT.kept0 ⟨ba, bc, rfl, hbc, hbr⟩ hk1) hmin
  have het : l.take (min ((l.length : Nat) : Int) (m : Nat)).toNat = l.take m := by
    rcases Nat.le_total l.length m with h | h
    · rw [List.take_of_length_le (by omega), List.take_of_length_le h]
    · rw [show (min ((l.length : Nat) : Int) (m : Nat)).toNat = m by omega]
  rw [het] at hsub
  have hlen : (l.take m).length ≤ m := by rw [List.length_take]; omega
  have hle : (l.take m).length * bytes ≤ 1000000 * bytes := Nat.mul_le_mul_right _ (by omega)
  refine xE_appendSrc he ho1 (Src.ofSlT (sliceB_spec he.sl) hsub hl h1) (by rw [Nat.zero_add]; omega) (by rw [Nat.zero_add]; unfold maxLen; omega) fun u w2 F2 ho2 hk2 hF2 _ => ?_
  rw [Nat.zero_add, List.nil_append] at ho2
  refine k u w2 F2 ho2 (fun g hg => ?_) (hk1.then hk2 (by intro k hk; simp at hk; subst hk; exact .inr (Nat.le_refl _)))
  rcases hF2 g hg with h | h
  · simp at h; omega
  · omega
end
end Go.X
