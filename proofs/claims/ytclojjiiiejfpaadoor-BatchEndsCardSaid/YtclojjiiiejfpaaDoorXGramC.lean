import Derived.Test.YtclojjiiiejfpaaDoorXGramP
namespace Go.X
set_option linter.unusedSimpArgs false
set_option linter.unusedVariables false
open Go

/-! ## Bytes that are cut short -/
theorem pNum_cut {size : Nat} {lo hi : Int} {r : List UInt8} (h : r.length < size) : pNum size lo hi r = .error 3 := by
  unfold pNum
  rw [if_pos h]
theorem pText_cut {lo hi : Int} {s : ByteArray} {r : List UInt8} {k : Nat} (h2 : s.size ≤ 65535) (hlo : lo ≤ s.size) (hhi : s.size ≤ hi) (hk : k < 2 + s.size) : pText lo hi ((textB s ++ r).take k) = .error 3 := by
  unfold pText
  by_cases h : k < 2
  · rw [pNum_cut (by rw [List.length_take]; omega)]
  · have e : (textB s ++ r).take k = lowB s.size 2 ++ (bytesOf s ++ r).take (k - 2) := by
      rw [textB, List.append_assoc, List.take_append, lowB_len, List.take_of_length_le (by rw [lowB_len]; omega)]
    rw [e, pNum_low (by omega) (by simp; omega) hlo hhi]
    simp only
    rw [if_pos]
    have hb := bytesOf_len s
    rw [List.length_take, List.length_append]
    omega
theorem pTexts_cut {most : Int} {r : List UInt8} : ∀ {l : List ByteArray} {k : Nat}, (∀ s ∈ l, s.size ≤ 65535 ∧ (s.size : Int) ≤ most) → k < (l.flatMap textB).length → pTexts most l.length ((l.flatMap textB ++ r).take k) = .error 3
  | [], k, _, hk => by simp at hk
  | s :: l, k, h, hk => by
    obtain ⟨h1, h2⟩ := h s List.mem_cons_self
    have hl : (textB s).length = 2 + s.size := by simp [textB, lowB_len, bytesOf_len]
    unfold pTexts
    simp only [List.flatMap_cons, List.append_assoc, List.length_cons]
    by_cases hks : k < 2 + s.size
    · rw [pText_cut h1 (by omega) h2 hks]
    · rw [List.take_append, List.take_of_length_le (by omega), pText_text h1 (by omega) h2]
      simp only
      rw [pTexts_cut (fun x hx => h x (List.mem_cons_of_mem _ hx)) (by rw [List.flatMap_cons, List.length_append] at hk; omega)]
theorem pVal_cut {f : GFd} {v : GVl} {r : List UInt8} {k : Nat} (h : f.right = true) (h63 : f.hi ≤ 9223372036854775807) (hf : f.fits v = true) (hk : k < (f.written v).length) : f.pVal ((f.written v ++ r).take k) = .error 3 := by
  rcases GFd.right_kinds h with hk1 | hk2 | hk3
  · have hw : f.written v = lowB v.n f.size.toNat := by unfold GFd.written; rw [if_pos hk1]
    rw [hw, lowB_len] at hk
    unfold GFd.pVal
    rw [if_pos hk1, pNum_cut (by rw [List.length_take]; omega)]
  · have hw : f.written v = textB v.s := by unfold GFd.written; rw [if_neg (by omega), if_pos hk2]
    obtain ⟨h1, h2, h3, h4⟩ := (GFd.fits_text hk2).1 hf
    obtain ⟨h5, h6, h7⟩ := GFd.right_text h hk2
    have hl : (textB v.s).length = 2 + v.s.size := by simp [textB, lowB_len, bytesOf_len]
    rw [hw, hl] at hk
    unfold GFd.pVal
    rw [if_neg (by omega), if_pos hk2, hw, pText_cut (by omega) h1 h2 hk]
  · have hw : f.written v = lowB v.l.length 1 ++ v.l.flatMap textB := by unfold GFd.written; rw [if_neg (by omega), if_neg (by omega)]
    obtain ⟨h1, h2, h3, h4, h5⟩ := (GFd.fits_texts hk3).1 hf
    obtain ⟨h6, h7, h8, h9, h10⟩ := GFd.right_texts h hk3
    rw [hw, List.length_append, lowB_len] at hk
    unfold GFd.pVal
    rw [if_neg (by omega), if_neg (by omega), hw]
    by_cases h0 : k < 1
    · rw [pNum_cut (by rw [List.length_take]; omega)]
    · have e : (lowB v.l.length 1 ++ v.l.flatMap textB ++ r).take k = lowB v.l.length 1 ++ (v.l.flatMap textB ++ r).take (k - 1) := by
        rw [List.append_assoc, List.take_append, lowB_len, List.take_of_length_le (by rw [lowB_len]; omega)]
      rw [e, pNum_low (by omega) (by simp; omega) h1 h2]
      simp only [Int.toNat_natCast]
      rw [pTexts_cut (fun s hs => ⟨by have := h3 s hs; omega, h3 s hs⟩) (by omega)]
theorem getRest_cut {n : Nat} : ∀ {fs : List GFd} {i : Nat} {vs : List GVl} {b : List UInt8} {k : Nat}, (∀ f ∈ fs, f.right = true ∧ f.hi ≤ 9223372036854775807) → vs.length = fs.length → putRest i fs vs = .ok b → k < b.length → ∃ j, getRest n fs (b.take k) = .error (j, 3)
  | [], i, vs, b, k, _, _, h, hk => by
    cases vs <;> (simp [putRest] at h; subst h; simp at hk)
  | f :: fs, i, [], b, k, _, hl, h, hk => by simp at hl
  | f :: fs, i, v :: vs, b, k, hr, hl, h, hk => by
    obtain ⟨h1, h2⟩ := hr f List.mem_cons_self
    unfold putRest at h
    split at h
    · rename_i hf
      obtain ⟨b', hb', rfl⟩ := map_ok h
      by_cases hkw : k < (f.written v).length
      · refine ⟨(n : Int) - ((f.written v ++ b').take k).length, ?_⟩
        unfold getRest
        rw [pVal_cut h1 h2 hf hkw]
      · rw [List.length_append] at hk
        obtain ⟨j, hj⟩ := getRest_cut (n := n) (k := k - (f.written v).length) (fun x hx => hr x (List.mem_cons_of_mem _ hx)) (by simpa using hl) hb' (by omega)
        refine ⟨j, ?_⟩
        unfold getRest
        rw [List.take_append, List.take_of_length_le (by omega), pVal_written h1 h2 hf]
        simp only
        rw [hj]
        rfl
    · cases h
theorem gramGet_cut {fs : List GFd} {vs : List GVl} {b : List UInt8} {k : Nat} (h63 : ∀ f ∈ fs, f.hi ≤ 9223372036854775807) (h : gramPut fs vs = .ok b) (hk : k < b.length) : ∃ j, gramGet fs (b.take k) = .error (j, 3) := by
  obtain ⟨hr, hl, hp⟩ := gramPut_ok h
  have hw : ¬ fs.findIdx (fun f => !f.right) < fs.length := fun hh => by
    have := List.findIdx_getElem (w := hh)
    rw [hr _ (List.getElem_mem hh)] at this
    cases this
  unfold gramGet
  rw [if_neg hw]
  exact getRest_cut (fun f hf => ⟨hr f hf, h63 f hf⟩) hl hp hk

theorem putRest_err : ∀ {fs : List GFd} {i : Nat} {vs : List GVl} {e : Int × Int}, putRest i fs vs = .error e → e.2 = 2
  | [], i, vs, e, h => by cases vs <;> simp [putRest] at h
  | f :: fs, i, [], e, h => by simp [putRest] at h; rw [← h]
  | f :: fs, i, v :: vs, e, h => by
    unfold putRest at h
    split at h
    · cases hp : putRest (i + 1) fs vs with
      | ok b => rw [hp] at h; simp [Except.map] at h
      | error e' =>
        rw [hp] at h
        simp [Except.map] at h
        rw [← h]
        exact putRest_err hp
    · simp at h
      rw [← h]
theorem gramPut_err {fs : List GFd} {vs : List GVl} {e : Int × Int} (h : gramPut fs vs = .error e) : e.2 = 1 ∨ e.2 = 2 := by
  unfold gramPut at h
  split at h
  · simp at h; rw [← h]; exact .inl rfl
  · split at h
    · exact .inr (putRest_err h)
    · simp at h; rw [← h]; exact .inl rfl

/-! ## How short the shortest row is -/
def GFd.least (f : GFd) : Int := if f.kind = 1 then f.size else if f.kind = 2 then 2 + f.lo else if f.kind = 3 then 1 + 2 * f.lo else 0
def leastSum (fs : List GFd) : Int := (fs.map GFd.least).sum
def gramLeast (fs : List GFd) : Int := if fs.findIdx (fun f => !f.right) < fs.length then 0 else leastSum fs
theorem texts_least : ∀ (l : List ByteArray), 2 * l.length ≤ (l.flatMap textB).length
  | [] => by simp
  | s :: l => by
    have := texts_least l
    have hl : (textB s).length = 2 + s.size := by simp [textB, lowB_len, bytesOf_len]
    rw [List.flatMap_cons, List.length_append, List.length_cons]
    omega
theorem written_least {f : GFd} {v : GVl} (h : f.right = true) (hf : f.fits v = true) : f.least ≤ (f.written v).length ∧ 0 ≤ f.least := by
  rcases GFd.right_kinds h with hk1 | hk2 | hk3
  · obtain ⟨hs, _⟩ := GFd.right_num h hk1
    have hw : f.written v = lowB v.n f.size.toNat := by unfold GFd.written; rw [if_pos hk1]
    unfold GFd.least
    rw [if_pos hk1, hw, lowB_len]
    omega
  · obtain ⟨h1, h2, h3, h4⟩ := (GFd.fits_text hk2).1 hf
    obtain ⟨h5, h6, h7⟩ := GFd.right_text h hk2
    have hw : f.written v = textB v.s := by unfold GFd.written; rw [if_neg (by omega), if_pos hk2]
    have hl : (textB v.s).length = 2 + v.s.size := by simp [textB, lowB_len, bytesOf_len]
    unfold GFd.least
    rw [if_neg (by omega), if_pos hk2, hw, hl]
    omega
  · obtain ⟨h1, h2, h3, h4, h5⟩ := (GFd.fits_texts hk3).1 hf
    obtain ⟨h6, h7, h8, h9, h10⟩ := GFd.right_texts h hk3
    have hw : f.written v = lowB v.l.length 1 ++ v.l.flatMap textB := by unfold GFd.written; rw [if_neg (by omega), if_neg (by omega)]
    have := texts_least v.l
    unfold GFd.least
    rw [if_neg (by omega), if_neg (by omega), if_pos hk3, hw, List.length_append, lowB_len]
    omega
theorem putRest_least : ∀ {fs : List GFd} {i : Nat} {vs : List GVl} {b : List UInt8}, (∀ f ∈ fs, f.right = true) → vs.length = fs.length → putRest i fs vs = .ok b → leastSum fs ≤ b.length ∧ 0 ≤ leastSum fs
  | [], i, vs, b, _, _, h => by simp [leastSum]
  | f :: fs, i, [], b, _, hl, h => by simp at hl
  | f :: fs, i, v :: vs, b, hr, hl, h => by
    unfold putRest at h
    split at h
    · rename_i hf
      obtain ⟨b', hb', rfl⟩ := map_ok h
      have h1 := written_least (hr f List.mem_cons_self) hf
      have h2 := putRest_least (fun x hx => hr x (List.mem_cons_of_mem _ hx)) (by simpa using hl) hb'
      unfold leastSum at *
      rw [List.map_cons, List.sum_cons, List.length_append]
      omega
    · cases h
theorem all_right {fs : List GFd} (h : ∀ f ∈ fs, f.right = true) : ¬ fs.findIdx (fun f => !f.right) < fs.length := fun hh => by
  have := List.findIdx_getElem (w := hh)
  rw [h _ (List.getElem_mem hh)] at this
  cases this
theorem gramPut_least {fs : List GFd} {vs : List GVl} {b : List UInt8} (h : gramPut fs vs = .ok b) : gramLeast fs ≤ b.length ∧ 0 ≤ gramLeast fs := by
  obtain ⟨hr, hl, hp⟩ := gramPut_ok h
  unfold gramLeast
  rw [if_neg (all_right hr)]
  exact putRest_least hr hl hp

/-! ## Rows behind each other -/
theorem putRest_append : ∀ {fs gs : List GFd} {i : Nat} {vs us : List GVl} {b c : List UInt8}, vs.length = fs.length → putRest i fs vs = .ok b → putRest (i + fs.length) gs us = .ok c → putRest i (fs ++ gs) (vs ++ us) = .ok (b ++ c)
  | [], gs, i, [], us, b, c, _, h, h' => by simp [putRest] at h; subst h; simpa using h'
  | [], gs, i, v :: vs, us, b, c, hl, h, h' => by simp at hl
  | f :: fs, gs, i, [], us, b, c, hl, h, h' => by simp at hl
  | f :: fs, gs, i, v :: vs, us, b, c, hl, h, h' => by
    unfold putRest at h
    split at h
    · rename_i hf
      obtain ⟨b', hb', rfl⟩ := map_ok h
      have := putRest_append (gs := gs) (us := us) (c := c) (by simpa using hl) hb' (by rw [show i + 1 + fs.length = i + (f :: fs).length by simp; omega]; exact h')
      simp only [List.cons_append, putRest]
      rw [if_pos hf, this]
      simp [Except.map]
    · cases h
theorem putRest_shift : ∀ {fs : List GFd} {i j : Nat} {vs : List GVl} {b : List UInt8}, putRest i fs vs = .ok b → putRest j fs vs = .ok b
  | [], i, j, vs, b, h => by cases vs <;> simpa [putRest] using h
  | f :: fs, i, j, [], b, h => by simp [putRest] at h
  | f :: fs, i, j, v :: vs, b, h => by
    unfold putRest at h ⊢
    split at h
    · rename_i hf
      obtain ⟨b', hb', rfl⟩ := map_ok h
      rw [if_pos hf, putRest_shift hb']
      rfl
    · cases h
theorem gramPut_append {fs gs : List GFd} {vs us : List GVl} {b c : List UInt8} (h : gramPut fs vs = .ok b) (h' : gramPut gs us = .ok c) : gramPut (fs ++ gs) (vs ++ us) = .ok (b ++ c) := by
  obtain ⟨hr, hl, hp⟩ := gramPut_ok h
  obtain ⟨hr', hl', hp'⟩ := gramPut_ok h'
  unfold gramPut
  rw [if_neg (all_right (fun f hf => (List.mem_append.1 hf).elim (hr f) (hr' f))), if_pos (by simp [hl, hl'])]
  exact putRest_append hl hp (putRest_shift hp')
theorem gramLeast_append {fs gs : List GFd} {vs us : List GVl} {b c : List UInt8} (h : gramPut fs vs = .ok b) (h' : gramPut gs us = .ok c) : gramLeast (fs ++ gs) = gramLeast fs + gramLeast gs := by
  obtain ⟨hr, hl, hp⟩ := gramPut_ok h
  obtain ⟨hr', hl', hp'⟩ := gramPut_ok h'
  unfold gramLeast leastSum
  rw [if_neg (all_right (fun f hf => (List.mem_append.1 hf).elim (hr f) (hr' f))), if_neg (all_right hr), if_neg (all_right hr')]
  simp
/-- If both together are written and the first has as many values as fields, each is. -/
theorem putRest_split : ∀ {fs gs : List GFd} {i : Nat} {vs us : List GVl} {b : List UInt8}, vs.length = fs.length → putRest i (fs ++ gs) (vs ++ us) = .ok b → ∃ b1 b2, putRest i fs vs = .ok b1 ∧ putRest (i + fs.length) gs us = .ok b2
  | [], gs, i, [], us, b, _, h => ⟨[], b, rfl, by simpa using h⟩
  | [], gs, i, v :: vs, us, b, hl, h => by simp at hl
  | f :: fs, gs, i, [], us, b, hl, h => by simp at hl
  | f :: fs, gs, i, v :: vs, us, b, hl, h => by
    simp only [List.cons_append, putRest] at h
    split at h
    · rename_i hf
      obtain ⟨b', hb', rfl⟩ := map_ok h
      obtain ⟨b1, b2, h1, h2⟩ := putRest_split (by simpa using hl) hb'
      refine ⟨f.written v ++ b1, b2, ?_, by rw [show i + (f :: fs).length = i + 1 + fs.length by simp; omega]; exact h2⟩
      unfold putRest
      rw [if_pos hf, h1]
      rfl
    · cases h
theorem gramPut_split {fs gs : List GFd} {vs us : List GVl} {b : List UInt8} (hl : vs.length = fs.length) (h : gramPut (fs ++ gs) (vs ++ us) = .ok b) : (∃ b1, gramPut fs vs = .ok b1) ∧ ∃ b2, gramPut gs us = .ok b2 := by
  obtain ⟨hr, hll, hp⟩ := gramPut_ok h
  obtain ⟨b1, b2, h1, h2⟩ := putRest_split hl hp
  rw [List.length_append, List.length_append] at hll
  refine ⟨⟨b1, ?_⟩, ⟨b2, ?_⟩⟩
  · unfold gramPut
    rw [if_neg (all_right (fun f hf => hr f (List.mem_append_left _ hf))), if_pos hl]
    exact h1
  · unfold gramPut
    rw [if_neg (all_right (fun f hf => hr f (List.mem_append_right _ hf))), if_pos (by omega)]
    exact putRest_shift h2
end Go.X
