import Derived.Test.YtbfaglbfpmnnmaaDoorXFlat
namespace Go.X
set_option linter.unusedSimpArgs false
set_option linter.unusedVariables false
open Go Go.RowKit

section
variable {α : Type} {P : Program} {T E : TypeId} {sz bytes : Nat} {enc : α → List Value} {w : World} {z v : Value} {l : List α}
/-- []T{} -/
theorem xE_slice0 {K : Value → World → Prop} (he : ElemB P T E sz bytes z) (k : ∀ w', Own w' E sz (.slice (some ⟨w.heap.size, 0, none⟩) 0 0) 0 [] [w.heap.size] → Kept [] w w' → w'.heap.size = w.heap.size + 1 → K (.slice (some ⟨w.heap.size, 0, none⟩) 0 0) w') :
    xE P (sBuildSlice T 0 #[]) w K := by
  obtain ⟨hu, i, hi, hz, hs, hby⟩ := he.info
  refine (xE_of (v := .slice (some ⟨w.heap.size, 0, none⟩) 0 0) (w' := w.alloc (.cells (#[] : Array Value) E)) ?_).2 (k _ ?_ (kept_alloc _ _ _) (by simp))
  · unfold sBuildSlice
    refine run_sB P _ w ?_
    simp [Instr.buildSlice, run_underlying hu, sizeOf, typeInfo, hi, Instr.fill, newRow]
    rw [show (Array.range 0) = (#[] : Array Nat) from by apply Array.eq_empty_of_size_eq_zero; simp]
    simp
  · exact ⟨by simp, .inr ⟨w.heap.size, 0, 0, [], rfl, rfl, blk_alloc w E [], Nat.le_refl _, by unfold maxLen; omega, by simp, by simp⟩⟩
theorem SlT.elem (h : SlT w enc v l) (hsz : ∀ x, (enc x).length = sz) {i : Nat} (hi : i < l.length) : ∃ b o c, v = .slice (some ⟨b, o, none⟩) l.length c ∧ At w b (o + i * sz) (enc l[i]) := by
  obtain ⟨a, c, rfl, hc, hr⟩ := h
  obtain ⟨b, o, rfl, hat⟩ := hr.resolve_left (by intro h; subst h; simp at hi)
  exact ⟨b, o, c, rfl, at_elem hsz hat (List.getElem?_eq_getElem hi)⟩
/-- s[:j] -/
theorem SlT.upto {a : Option Addr} {c j : Nat} (hsz : ∀ x, (enc x).length = sz) (h : SlT w enc (.slice a l.length c) l) (hj : j ≤ l.length) : SlT w enc (.slice (if c = 0 then a else a.map (·.add (0 * sz))) j c) (l.take j) := by
  have := SlT.sub (i := 0) (j := j) hsz h (by omega) hj
  simpa using this
theorem SlT.nil_ (w : World) (enc : α → List Value) : SlT w enc (.slice none 0 0) ([] : List α) := ⟨none, 0, rfl, by simp, .inl rfl⟩
theorem at_keptM {w' : World} {M : List Nat} {b o : Nat} {l : List Value} (h : At w b o l) (hk : Kept M w w') (hb : b ∉ M) : At w' b o l := h.kept hk hb
end
theorem extract_min {s : ByteArray} {k : Nat} : s.extract 0 (min (s.size : Int) (k : Nat)).toNat = s.extract 0 k := by
  apply ByteArray.ext
  simp only [ByteArray.data_extract]
  apply Array.ext'
  simp only [Array.toList_extract, List.extract_eq_take_drop, List.drop_zero, Nat.sub_zero]
  have e : s.data.toList.length = s.size := by simp
  by_cases h : s.size ≤ k
  · rw [List.take_of_length_le (by omega), List.take_of_length_le (by omega)]
  · congr 1; omega
end Go.X
namespace Go.X
open Go Go.RowKit
theorem xP_xorB {P : Program} {T : TypeId} {K : Value → Prop} {a b : UInt8} : xP P (sBin .xor T (.int .u8 a.toNat) (.int .u8 b.toNat)) K ↔ K (.int .u8 (a ^^^ b).toNat) :=
  xP_xor.trans (Iff.of_eq (congrArg (fun z => K (.int .u8 z)) (by
    have e : (BitVec.ofInt IntKind.u8.bits ((a.toNat : Nat) : Int) ^^^ BitVec.ofInt IntKind.u8.bits ((b.toNat : Nat) : Int)).toNat = (a ^^^ b).toNat := by
      show (BitVec.ofInt 8 ((a.toNat : Nat) : Int) ^^^ BitVec.ofInt 8 ((b.toNat : Nat) : Int)).toNat = _
      rw [UInt8.toNat_xor, BitVec.toNat_xor, BitVec.toNat_ofInt, BitVec.toNat_ofInt]
      have ha := a.toNat_lt
      have hb := b.toNat_lt
      have e1 : (((a.toNat : Nat) : Int) % ((2 : Nat) ^ 8 : Nat)).toNat = a.toNat := by omega
      have e2 : (((b.toNat : Nat) : Int) % ((2 : Nat) ^ 8 : Nat)).toNat = b.toNat := by omega
      rw [e1, e2]
    rw [e, wrapU8]
    have := (a ^^^ b).toNat_lt
    omega)))
end Go.X
namespace Go.X
theorem set_window {α : Type} {cur : List α} {oo n i : Nat} {v : α} : ((cur.set (oo + i) v).drop oo).take n = ((cur.drop oo).take n).set i v := by
  apply List.ext_getElem?
  intro j
  rw [List.getElem?_set, List.getElem?_take, List.getElem?_take, List.getElem?_drop, List.getElem?_drop, List.getElem?_set]
  simp only [List.length_take, List.length_drop]
  by_cases hj : j < n
  · by_cases hij : i = j
    · subst hij
      by_cases hl : oo + i < cur.length
      · simp [hj, hl]; omega
      · have : ¬ (i < n ∧ i < cur.length - oo) := by omega
        simp [hj, hl, this]; omega
    · have : ¬ oo + i = oo + j := by omega
      simp [hij, hj, this]
  · by_cases hij : i = j
    · subst hij
      simp [hj]
      omega
    · simp [hij, hj]
end Go.X
namespace Go.X
open Go Go.RowKit
/-- A store into a row of one's own. -/
theorem xE_storeOwn {P : Program} {T E : TypeId} {sz n c b o i : Nat} {w : World} {u : Value} {xs : List Value} {F : List Nat} {K : Value → World → Prop} (hsz : sizeB P T 1 = true) (h : Own w E sz (.slice (some ⟨b, o, none⟩) n c) n xs F) (hi : i < xs.length) (h1 : u.oneCell' = true)
    (k : ∀ w', Own w' E sz (.slice (some ⟨b, o, none⟩) n c) n (xs.set i u) F → Kept F w w' → w'.heap.size = w.heap.size → K undef w') : xE P (sStore T (.pointer (some ⟨b, o + i, none⟩)) u) w K := by
  have hxl := h.1
  rcases h.2 with ⟨he, _, _⟩ | ⟨g, oo, cap, cur, he, hF, hblk, hnc, hcm, hcs, htk⟩
  · cases he
  · cases he
    have hmul : n * sz ≤ c * sz := Nat.mul_le_mul_right _ hnc
    refine xE_store1 hsz hblk (by omega) h1 fun w' hb' hk hz => k w' ⟨by rw [List.length_set]; exact hxl, .inr ⟨b, o, c, _, rfl, hF, hb', hnc, hcm, by rw [List.length_set]; exact hcs, ?_⟩⟩ (hF ▸ hk) hz
    rw [set_window, htk]
end Go.X
