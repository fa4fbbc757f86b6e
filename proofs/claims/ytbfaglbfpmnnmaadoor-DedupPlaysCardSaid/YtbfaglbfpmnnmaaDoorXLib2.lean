import Derived.Test.YtbfaglbfpmnnmaaDoorXGramS
namespace Go.X
set_option linter.unusedSimpArgs false
set_option linter.unusedVariables false
open Go Go.RowKit

section
variable {α : Type} {P : Program} {T E : TypeId} {sz bytes : Nat} {enc : α → List Value} {w : World} {v : Value} {z : Value}

/-! ## Rows of one's own, once more -/
theorem own_of_blk {g n : Nat} {xs : List Value} (hb : Blk w g E xs) (hl : xs.length = n * sz) (hn : n ≤ maxLen) : Own w E sz (.slice (some ⟨g, 0, none⟩) n n) n xs [g] :=
  ⟨hl, .inr ⟨g, 0, n, xs, rfl, rfl, hb, Nat.le_refl _, hn, by omega, by rw [List.drop_zero, List.take_of_length_le (by omega)]⟩⟩
theorem Own.blk {g n : Nat} {xs : List Value} {F : List Nat} (h : Own w E sz (.slice (some ⟨g, 0, none⟩) n n) n xs F) : ∃ rest, Blk w g E (xs ++ rest) ∧ F = [g] := by
  rcases h.2 with ⟨h1, _, _⟩ | ⟨g', o, cap, cur, h1, h2, hb, hn, hm, hs, ht⟩
  · cases h1
  · cases h1
    refine ⟨cur.drop (n * sz), ?_, h2⟩
    rw [List.drop_zero] at ht
    rw [← ht, List.take_append_drop]
    exact hb
/-- make of bytes, numbers: a block of zeros. -/
theorem xE_make {K : Value → World → Prop} (he : ElemB P T E 1 bytes z) {q q' : IntKind} {l : Nat} (hb : bytes * l ≤ 140737488355328) (h63 : l ≤ maxLen)
    (k : ∀ w', Blk w' w.heap.size E (List.replicate l (z.cells[0]'(by have := he.zs; omega))) → Kept [] w w' → w'.heap.size = w.heap.size + 1 → K (.slice (some ⟨w.heap.size, 0, none⟩) l l) w') :
    xE P (sMakeSlice T (.int q l) (.int q' l)) w K := by
  obtain ⟨hu, i, hi, hz, hs, hby⟩ := he.info
  have hm : maxLen ≤ 9223372036854775807 := by unfold maxLen; omega
  have hbb : ((bytes * l : Nat) : Int) ≤ 140737488355328 := by omega
  rw [Int.natCast_mul] at hbb
  have hr := run_make (P := P) w T E i z hu hi hz q q' l l (by omega) (Int.le_refl _) (by rw [hby]; omega) (by omega)
  simp only [Int.toNat_natCast, hs, Nat.mul_one] at hr
  refine (xE_of (v := .slice (some ⟨w.heap.size, 0, none⟩) l l) (w' := w.alloc (.cells (madeCells z.cells l) E)) ?_).2 (k _ ?_ (kept_alloc _ _ _) (by simp))
  · unfold sMakeSlice
    exact run_sB P _ w hr
  · rw [← made_toList (n := l) he.zs]
    exact blk_alloc w E _
theorem Src.ofSlT {tx e' : TypeId} {l : List α} (hk : P.underlying tx = some (.slice e')) (hsl : SlT w enc v l) (hlen : ∀ x, (enc x).length = sz) (h1 : ∀ x, ∀ u ∈ enc x, u.oneCell' = true) : Src P sz tx v l.length (l.flatMap enc) w := by
  obtain ⟨a, c, rfl, hc, hr⟩ := hsl
  have one : ∀ u ∈ l.flatMap enc, u.oneCell' = true := fun u hu => by
    obtain ⟨x, _, hx⟩ := List.mem_flatMap.1 hu
    exact h1 x u hx
  cases a with
  | none =>
    have : l = [] := by
      rcases hr with h | ⟨b, o, h, _⟩
      · exact h
      · cases h
    subst this
    exact Src.ofNil w hk c
  | some a =>
    refine Src.ofSlice w hk a _ _ _ (flat_len hlen l) (fun j u hj => ?_) one
    rcases hr with rfl | ⟨b, o, ha, hat⟩
    · simp at hj
    · cases ha
      rw [add_none, hat j (List.getElem?_eq_some_iff.1 hj).1, hj]
theorem encB_one (x : UInt8) : ∀ u ∈ encB x, u.oneCell' = true := by intro u hu; simp [encB] at hu; subst hu; rfl
theorem encS_one (x : ByteArray) : ∀ u ∈ encS x, u.oneCell' = true := by intro u hu; simp [encS] at hu; subst hu; rfl
theorem Src.ofStr {tx : TypeId} (hk : strB P tx) (s : ByteArray) : Src P 1 tx (.string s) s.size ((bytesOf s).flatMap encB) w := by
  have := Src.ofString (P := P) w hk s
  rw [byteCells_eq] at this
  exact this
end

theorem wrapU8 (x : Int) : IntKind.u8.wrap x = x % 256 := by
  simp [IntKind.wrap, IntKind.bits, IntKind.signed]
theorem low_cell (x : Int) : Value.int .u8 (x % 256) = .int .u8 ((UInt8.ofNat (x % 256).toNat).toNat : Nat) := by
  have h1 := Int.emod_nonneg x (show (256 : Int) ≠ 0 by omega)
  have h2 := Int.emod_lt_of_pos x (show (0 : Int) < 256 by omega)
  congr 1
  rw [UInt8.toNat_ofNat']
  omega
theorem lowB_succ (n : Int) (k : Nat) : lowB n (k + 1) = lowB n k ++ [UInt8.ofNat (n / 2 ^ (8 * k) % 256).toNat] := by
  simp [lowB, List.range_succ]
theorem set_row {A : List Value} {z v : Value} {k i : Nat} (h : A.length = i) : (A ++ List.replicate (k + 1) z).set i v = A ++ [v] ++ List.replicate k z := by
  subst h
  rw [List.set_append_right _ _ (Nat.le_refl _), Nat.sub_self, List.replicate_succ, List.set_cons_zero, List.append_assoc]
  rfl
end Go.X
