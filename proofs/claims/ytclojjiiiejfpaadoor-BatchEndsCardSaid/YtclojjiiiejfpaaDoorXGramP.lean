import Derived.Test.YtclojjiiiejfpaaDoorXB
namespace Go.X
set_option linter.unusedSimpArgs false
set_option linter.unusedVariables false
open Go Go.RowKit

/-! ## The laws of a grammar, with no program in sight -/
theorem lowB_zero (n : Int) : lowB n 0 = [] := rfl
theorem lowB_cons (n : Int) (k : Nat) : lowB n (k + 1) = UInt8.ofNat (n % 256).toNat :: lowB (n / 256) k := by
  unfold lowB
  rw [List.range_succ_eq_map, List.map_cons, List.map_map]
  congr 1
  · simp
  · apply List.map_congr_left
    intro i _
    simp only [Function.comp]
    congr 2
    rw [Int.ediv_ediv_of_nonneg (by omega)]
    congr 2
    rw [show 8 * (i + 1) = 8 + 8 * i by omega, Int.pow_add]
    rfl
theorem lowB_leNat : ∀ (l : List UInt8), lowB (leNat l : Nat) l.length = l
  | [] => rfl
  | b :: l => by
    have hb := b.toNat_lt
    rw [List.length_cons, lowB_cons]
    have e1 : (((leNat (b :: l) : Nat) : Int) % 256).toNat = b.toNat := by simp only [leNat]; omega
    have e2 : ((leNat (b :: l) : Nat) : Int) / 256 = (leNat l : Nat) := by simp only [leNat]; omega
    rw [e1, e2, lowB_leNat l]
    simp
theorem leNat_lowB : ∀ (k : Nat) (n : Nat), n < 256 ^ k → leNat (lowB n k) = n
  | 0, n, h => by simp at h; subst h; rfl
  | k + 1, n, h => by
    rw [lowB_cons]
    have e1 : (((n : Nat) : Int) % 256).toNat = n % 256 := by omega
    have e2 : ((n : Nat) : Int) / 256 = ((n / 256 : Nat) : Int) := by omega
    rw [e1, e2]
    simp only [leNat]
    rw [leNat_lowB k (n / 256) (by rw [Nat.pow_succ] at h; omega)]
    rw [UInt8.toNat_ofNat']
    omega
theorem bytesOf_mk (l : List UInt8) : bytesOf ⟨l.toArray⟩ = l := rfl
theorem mk_bytesOf (s : ByteArray) : (⟨(bytesOf s).toArray⟩ : ByteArray) = s := by
  unfold bytesOf; simp
theorem size_mk (l : List UInt8) : (ByteArray.mk l.toArray).size = l.length := by show l.toArray.size = _; simp

/-! ### Reading what was written -/
theorem pNum_low {size : Nat} {lo hi n : Int} {r : List UInt8} (h0 : 0 ≤ n) (h1 : n < 256 ^ size) (hlo : lo ≤ n) (hhi : n ≤ hi) : pNum size lo hi (lowB n size ++ r) = .ok (n, r) := by
  obtain ⟨m, rfl⟩ := Int.eq_ofNat_of_zero_le h0
  have hm : m < 256 ^ size := by
    have : ((256 ^ size : Nat) : Int) = 256 ^ size := by simp
    omega
  unfold pNum
  rw [if_neg (by rw [List.length_append, lowB_len]; omega)]
  have ht : (lowB (m : Int) size ++ r).take size = lowB m size := by
    have := List.take_left (l₁ := lowB (m : Int) size) (l₂ := r)
    rwa [lowB_len] at this
  have hd : (lowB (m : Int) size ++ r).drop size = r := by
    have := List.drop_left (l₁ := lowB (m : Int) size) (l₂ := r)
    rwa [lowB_len] at this
  rw [ht, hd, leNat_lowB size m hm, if_neg (by omega)]
theorem pText_text {lo hi : Int} {s : ByteArray} {r : List UInt8} (h2 : s.size ≤ 65535) (hlo : lo ≤ s.size) (hhi : s.size ≤ hi) : pText lo hi (textB s ++ r) = .ok (s, r) := by
  unfold pText textB
  rw [List.append_assoc, pNum_low (by omega) (by simp; omega) hlo hhi]
  simp only
  rw [if_neg (by rw [List.length_append, bytesOf_len]; omega), Int.toNat_natCast]
  have ht : (bytesOf s ++ r).take s.size = bytesOf s := by
    have := List.take_left (l₁ := bytesOf s) (l₂ := r)
    rwa [bytesOf_len] at this
  have hd : (bytesOf s ++ r).drop s.size = r := by
    have := List.drop_left (l₁ := bytesOf s) (l₂ := r)
    rwa [bytesOf_len] at this
  rw [ht, hd, mk_bytesOf]
theorem pTexts_texts {most : Int} {r : List UInt8} : ∀ {l : List ByteArray}, (∀ s ∈ l, s.size ≤ 65535 ∧ (s.size : Int) ≤ most) → pTexts most l.length (l.flatMap textB ++ r) = .ok (l, r)
  | [], _ => rfl
  | s :: l, h => by
    obtain ⟨h1, h2⟩ := h s List.mem_cons_self
    rw [List.flatMap_cons, List.append_assoc]
    simp only [List.length_cons, pTexts]
    rw [pText_text h1 (by omega) h2]
    simp only
    rw [pTexts_texts (fun x hx => h x (List.mem_cons_of_mem _ hx))]

theorem GFd.right_num {f : GFd} (h : f.right = true) (hk : f.kind = 1) : (f.size = 1 ∨ f.size = 2 ∨ f.size = 4 ∨ f.size = 8) ∧ 0 ≤ f.lo ∧ f.lo ≤ f.hi ∧ f.most = 0 ∧ (f.size ≠ 8 → f.hi / 2 ^ (8 * f.size).toNat = 0) := by
  unfold GFd.right at h
  rw [if_pos hk] at h
  simp at h
  omega
theorem GFd.right_text {f : GFd} (h : f.right = true) (hk : f.kind = 2) : 0 ≤ f.lo ∧ f.lo ≤ f.hi ∧ f.hi ≤ 65535 := by
  unfold GFd.right at h
  simp [hk] at h
  omega
theorem GFd.right_texts {f : GFd} (h : f.right = true) (hk : f.kind = 3) : 0 ≤ f.lo ∧ f.lo ≤ f.hi ∧ f.hi ≤ 255 ∧ 0 ≤ f.most ∧ f.most ≤ 65535 := by
  unfold GFd.right at h
  simp [hk] at h
  omega
theorem GFd.right_kinds {f : GFd} (h : f.right = true) : f.kind = 1 ∨ f.kind = 2 ∨ f.kind = 3 := by
  unfold GFd.right at h
  by_cases h1 : f.kind = 1
  · exact .inl h1
  · by_cases h3 : f.kind = 3
    · exact .inr (.inr h3)
    · by_cases h2 : f.kind = 2
      · exact .inr (.inl h2)
      · simp [h1, h2, h3] at h
/-- A number's greatest fits its bytes. -/
theorem GFd.num_lt {f : GFd} (h : f.right = true) (hk : f.kind = 1) (h63 : f.hi ≤ 9223372036854775807) {n : Int} (h0 : 0 ≤ n) (hn : n ≤ f.hi) : n < 256 ^ f.size.toNat := by
  obtain ⟨hs, hlo, hlh, _, hq⟩ := GFd.right_num h hk
  have key : ∀ k : Nat, f.size = k → (k = 1 ∨ k = 2 ∨ k = 4) → n < 256 ^ k := by
    intro k hk' hk3
    have := hq (by omega)
    rw [hk'] at this
    rcases hk3 with rfl | rfl | rfl
    · have e : (2 : Int) ^ ((8 : Int) * (1 : Nat)).toNat = 256 := by decide
      rw [e] at this
      have e2 : (256 : Int) ^ 1 = 256 := by decide
      rw [e2]; omega
    · have e : (2 : Int) ^ ((8 : Int) * (2 : Nat)).toNat = 65536 := by decide
      rw [e] at this
      have e2 : (256 : Int) ^ 2 = 65536 := by decide
      rw [e2]; omega
    · have e : (2 : Int) ^ ((8 : Int) * (4 : Nat)).toNat = 4294967296 := by decide
      rw [e] at this
      have e2 : (256 : Int) ^ 4 = 4294967296 := by decide
      rw [e2]; omega
  rcases hs with hs | hs | hs | hs
  · rw [hs]; exact key 1 (by omega) (by omega)
  · rw [hs]; exact key 2 (by omega) (by omega)
  · rw [hs]; exact key 4 (by omega) (by omega)
  · rw [hs]
    have e2 : (256 : Int) ^ (8 : Int).toNat = 18446744073709551616 := by decide
    rw [e2]; omega
theorem GFd.fits_num {f : GFd} {v : GVl} (hk : f.kind = 1) : f.fits v = true ↔ f.lo ≤ v.n ∧ v.n ≤ f.hi ∧ v.s = strEmpty ∧ v.l = [] := by
  unfold GFd.fits GFd.isIn
  simp [hk, and_assoc]
theorem GFd.fits_text {f : GFd} {v : GVl} (hk : f.kind = 2) : f.fits v = true ↔ f.lo ≤ v.s.size ∧ (v.s.size : Int) ≤ f.hi ∧ v.n = 0 ∧ v.l = [] := by
  unfold GFd.fits GFd.isIn
  simp [hk, and_assoc]
theorem GFd.fits_texts {f : GFd} {v : GVl} (hk : f.kind = 3) : f.fits v = true ↔ f.lo ≤ v.l.length ∧ (v.l.length : Int) ≤ f.hi ∧ (∀ s ∈ v.l, (s.size : Int) ≤ f.most) ∧ v.n = 0 ∧ v.s = strEmpty := by
  unfold GFd.fits GFd.isIn
  simp [hk, and_assoc]

/-- L1: what is written is read. -/
theorem pVal_written {f : GFd} {v : GVl} {r : List UInt8} (h : f.right = true) (h63 : f.hi ≤ 9223372036854775807) (hf : f.fits v = true) : f.pVal (f.written v ++ r) = .ok (v, r) := by
  obtain ⟨n, s, l⟩ := v
  unfold GFd.pVal GFd.written
  rcases GFd.right_kinds h with hk | hk | hk
  · obtain ⟨h1, h2, h3, h4⟩ := (GFd.fits_num hk).1 hf
    obtain ⟨hs, hlo, _, _, _⟩ := GFd.right_num h hk
    rw [if_pos hk, if_pos hk]
    simp only at h1 h2 h3 h4 ⊢
    rw [pNum_low (by omega) (GFd.num_lt h hk h63 (by omega) h2) h1 h2, h3, h4]
  · obtain ⟨h1, h2, h3, h4⟩ := (GFd.fits_text hk).1 hf
    obtain ⟨hlo, _, h5⟩ := GFd.right_text h hk
    rw [if_neg (by omega), if_pos hk, if_neg (by omega), if_pos hk]
    simp only at h1 h2 h3 h4 ⊢
    rw [pText_text (by omega) h1 h2, h3, h4]
  · obtain ⟨h1, h2, h3, h4, h5⟩ := (GFd.fits_texts hk).1 hf
    obtain ⟨hlo, _, h6, h7, h8⟩ := GFd.right_texts h hk
    rw [if_neg (by omega), if_neg (by omega), if_neg (by omega), if_neg (by omega)]
    simp only at h1 h2 h3 h4 h5 ⊢
    rw [List.append_assoc, pNum_low (by omega) (by simp; omega) h1 h2]
    simp only [Int.toNat_natCast]
    rw [pTexts_texts (fun s hs => by have := h3 s hs; omega), h4, h5]
theorem map_ok {α β : Type} {e : Except (Int × Int) α} {g : α → β} {y : β} (h : e.map g = .ok y) : ∃ x, e = .ok x ∧ y = g x := by
  cases e with
  | error _ => cases h
  | ok x => cases h; exact ⟨x, rfl, rfl⟩
theorem putRest_len {fs : List GFd} : ∀ {i : Nat} {vs : List GVl} {b : List UInt8}, vs.length = fs.length → putRest i fs vs = .ok b → ∀ (j : Nat) (f : GFd) (v : GVl), fs[j]? = some f → vs[j]? = some v → f.fits v = true := by
  induction fs with
  | nil => intro i vs b _ _ j f v hj; simp at hj
  | cons f fs ih =>
    intro i vs b hl h j f' v' hj hv
    cases vs with
    | nil => simp at hl
    | cons v vs =>
      simp only [putRest] at h
      by_cases hf : f.fits v = true
      · rw [if_pos hf] at h
        obtain ⟨x, hx, rfl⟩ := map_ok h
        cases j with
        | zero => simp at hj hv; subst hj; subst hv; exact hf
        | succ j => exact ih (by simpa using hl) hx j f' v' (by simpa using hj) (by simpa using hv)
      · rw [if_neg hf] at h; cases h
theorem get_put {n : Nat} : ∀ {fs : List GFd} {i : Nat} {vs : List GVl} {b r : List UInt8}, (∀ f ∈ fs, f.right = true ∧ f.hi ≤ 9223372036854775807) → vs.length = fs.length → putRest i fs vs = .ok b → getRest n fs (b ++ r) = (getRest n [] r).map (vs ++ ·)
  | [], i, vs, b, r, _, hl, h => by
    have : vs = [] := List.eq_nil_of_length_eq_zero (by simpa using hl)
    subst this
    cases h
    rw [List.nil_append]
    cases getRest n [] r <;> rfl
  | f :: fs, i, [], b, r, _, hl, h => by simp at hl
  | f :: fs, i, v :: vs, b, r, hr, hl, h => by
    simp only [putRest] at h
    by_cases hf : f.fits v = true
    · rw [if_pos hf] at h
      obtain ⟨x, hx, rfl⟩ := map_ok h
      obtain ⟨h1, h2⟩ := hr f List.mem_cons_self
      rw [List.append_assoc]
      have e : getRest n (f :: fs) (f.written v ++ (x ++ r)) = (getRest n fs (x ++ r)).map (v :: ·) := by
        conv => lhs; unfold getRest
        rw [pVal_written h1 h2 hf]
      rw [e, get_put (fun g hg => hr g (List.mem_cons_of_mem _ hg)) (by simpa using hl) hx]
      cases getRest n [] r <;> rfl
    · rw [if_neg hf] at h; cases h

/-- L2: what is read was written. -/
theorem pNum_inv {size : Nat} {lo hi n : Int} {r r' : List UInt8} (h : pNum size lo hi r = .ok (n, r')) : r = lowB n size ++ r' ∧ lo ≤ n ∧ n ≤ hi ∧ 0 ≤ n ∧ n < 256 ^ size := by
  unfold pNum at h
  split at h
  · cases h
  · rename_i hl
    split at h
    · cases h
    · cases h
      have e : (r.take size).length = size := by rw [List.length_take]; omega
      have h1 := lowB_leNat (r.take size)
      have h2 := leNat_lt (r.take size)
      rw [e] at h1 h2
      rw [h1, List.take_append_drop]
      refine ⟨rfl, by omega, by omega, by omega, ?_⟩
      have : ((256 ^ size : Nat) : Int) = 256 ^ size := by simp
      omega
theorem pText_inv {lo hi : Int} {s : ByteArray} {r r' : List UInt8} (h : pText lo hi r = .ok (s, r')) : r = textB s ++ r' ∧ lo ≤ s.size ∧ (s.size : Int) ≤ hi := by
  unfold pText at h
  split at h
  · cases h
  · rename_i n r1 hn
    obtain ⟨h1, h2, h3, h4, h5⟩ := pNum_inv hn
    obtain ⟨m, rfl⟩ := Int.eq_ofNat_of_zero_le h4
    split at h
    · cases h
    · cases h
      rw [Int.toNat_natCast] at *
      have hs : (ByteArray.mk (r1.take m).toArray).size = m := by rw [size_mk, List.length_take]; omega
      unfold textB
      rw [hs, bytesOf_mk, List.append_assoc, List.take_append_drop]
      exact ⟨h1, h2, h3⟩
theorem pTexts_inv {most : Int} : ∀ {k : Nat} {r r' : List UInt8} {l : List ByteArray}, pTexts most k r = .ok (l, r') → r = l.flatMap textB ++ r' ∧ l.length = k ∧ ∀ s ∈ l, (s.size : Int) ≤ most
  | 0, _, _, _, h => by cases h; simp
  | k + 1, r, r', l, h => by
    unfold pTexts at h
    split at h
    · cases h
    · rename_i s r1 hs
      split at h
      · cases h
      · rename_i h2
        cases h
        obtain ⟨a1, a2, a3⟩ := pText_inv hs
        obtain ⟨b1, b2, b3⟩ := pTexts_inv h2
        refine ⟨by rw [a1, b1, List.flatMap_cons, List.append_assoc], by simp [b2], fun x hx => ?_⟩
        rcases List.mem_cons.1 hx with rfl | hx
        · exact a3
        · exact b3 x hx
theorem pVal_inv {f : GFd} {v : GVl} {r r' : List UInt8} (hr : f.right = true) (h : f.pVal r = .ok (v, r')) : r = f.written v ++ r' ∧ f.fits v = true := by
  unfold GFd.pVal at h
  unfold GFd.written
  rcases GFd.right_kinds hr with hk | hk | hk
  · rw [if_pos hk] at h
    rw [if_pos hk, GFd.fits_num hk]
    split at h
    · cases h
    · rename_i hn
      cases h
      obtain ⟨h1, h2, h3, h4, h5⟩ := pNum_inv hn
      exact ⟨h1, h2, h3, rfl, rfl⟩
  · rw [if_neg (by omega), if_pos hk] at h
    rw [if_neg (by omega), if_pos hk, GFd.fits_text hk]
    split at h
    · cases h
    · rename_i hn
      cases h
      obtain ⟨h1, h2, h3⟩ := pText_inv hn
      exact ⟨h1, h2, h3, rfl, rfl⟩
  · rw [if_neg (by omega), if_neg (by omega)] at h
    rw [if_neg (by omega), if_neg (by omega), GFd.fits_texts hk]
    split at h
    · cases h
    · rename_i k r1 hn
      split at h
      · cases h
      · rename_i h2
        cases h
        obtain ⟨h1, h3, h4, h5, h6⟩ := pNum_inv hn
        obtain ⟨b1, b2, b3⟩ := pTexts_inv h2
        have e : ((k.toNat : Nat) : Int) = k := by omega
        simp only
        rw [b2, e]
        refine ⟨by rw [h1, b1, List.append_assoc], h3, h4, b3, ?_⟩
        simp
theorem put_get {n : Nat} : ∀ {fs : List GFd} {i : Nat} {vs : List GVl} {b : List UInt8}, (∀ f ∈ fs, f.right = true) → getRest n fs b = .ok vs → putRest i fs vs = .ok b
  | [], i, vs, b, _, h => by
    unfold getRest at h
    split at h
    · rename_i hb
      cases h
      rw [List.isEmpty_iff] at hb
      subst hb
      rfl
    · cases h
  | f :: fs, i, vs, b, hr, h => by
    unfold getRest at h
    split at h
    · cases h
    · rename_i v r' hv
      obtain ⟨x, hx, rfl⟩ := map_ok h
      obtain ⟨h1, h2⟩ := pVal_inv (hr f List.mem_cons_self) hv
      simp only [putRest]
      rw [if_pos h2, put_get (fun g hg => hr g (List.mem_cons_of_mem _ hg)) hx, h1]
      rfl
theorem gramPut_get {fs : List GFd} {vs : List GVl} {b : List UInt8} (h : gramGet fs b = .ok vs) : gramPut fs vs = .ok b := by
  obtain ⟨h1, h2⟩ := gramGet_ok h
  unfold gramPut
  rw [if_neg, if_pos (getRest_len h1), put_get h2 h1]
  intro hlt
  have := List.findIdx_getElem (w := hlt)
  simp [h2 _ (List.getElem_mem hlt)] at this
theorem gramPut_ok {fs : List GFd} {vs : List GVl} {b : List UInt8} (h : gramPut fs vs = .ok b) : (∀ f ∈ fs, f.right = true) ∧ vs.length = fs.length ∧ putRest 0 fs vs = .ok b := by
  unfold gramPut at h
  split at h
  · cases h
  · rename_i hw
    split at h
    · rename_i hl
      refine ⟨fun f hm => ?_, hl, h⟩
      cases hr : f.right with
      | true => rfl
      | false => exact absurd (List.findIdx_lt_length_of_exists ⟨f, hm, by simp [hr]⟩) hw
    · cases h
theorem gramGet_put {fs : List GFd} {vs : List GVl} {b : List UInt8} (h63 : ∀ f ∈ fs, f.hi ≤ 9223372036854775807) (h : gramPut fs vs = .ok b) : gramGet fs b = .ok vs := by
  obtain ⟨h1, h2, h3⟩ := gramPut_ok h
  unfold gramGet
  rw [if_neg]
  · have := get_put (n := b.length) (r := []) (fun f hf => ⟨h1 f hf, h63 f hf⟩) h2 h3
    rw [List.append_nil] at this
    rw [this]
    simp [getRest, Except.map]
  intro hlt
  have := List.findIdx_getElem (w := hlt)
  simp [h1 _ (List.getElem_mem hlt)] at this
/-- With more behind: the tail is told. -/
theorem gramGet_tail {fs : List GFd} {vs : List GVl} {b r : List UInt8} (h63 : ∀ f ∈ fs, f.hi ≤ 9223372036854775807) (h : gramPut fs vs = .ok b) (hr : r ≠ []) : gramGet fs (b ++ r) = .error (b.length, 4) := by
  obtain ⟨h1, h2, h3⟩ := gramPut_ok h
  unfold gramGet
  rw [if_neg]
  · rw [get_put (n := (b ++ r).length) (fun f hf => ⟨h1 f hf, h63 f hf⟩) h2 h3]
    have : r.isEmpty = false := by rw [List.isEmpty_eq_false_iff]; exact hr
    simp only [getRest, this, Except.map, Bool.false_eq_true, if_false, List.length_append]
    congr 2
    omega
  intro hlt
  have := List.findIdx_getElem (w := hlt)
  simp [h1 _ (List.getElem_mem hlt)] at this
end Go.X
