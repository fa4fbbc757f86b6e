import Derived.Test.YtclojjiiiejfpaaDoorXGramP
namespace Go.X
set_option linter.unusedSimpArgs false
set_option linter.unusedVariables false
open Go Go.RowKit

structure Rp.Fit (r : Rp) : Prop where
  corr : 0 ≤ r.corr ∧ r.corr ≤ 4294967295
  err : 0 ≤ r.err ∧ r.err ≤ 255
  base : 0 ≤ r.base ∧ r.base ≤ 9223372036854775807
  next : 0 ≤ r.next ∧ r.next ≤ 9223372036854775807
  names : r.names.length ≤ 8 ∧ ∀ s ∈ r.names, s.size ≤ 24
  batches : r.batches.length ≤ 4 ∧ ∀ p ∈ r.batches, p.2.size ≤ 600
def rpB (r : Rp) : List UInt8 := lowB r.corr 4 ++ (lowB r.err 1 ++ (lowB r.base 8 ++ (lowB r.next 8 ++ ((lowB r.names.length 1 ++ r.names.flatMap textB) ++ ((lowB r.batches.length 1 ++ (r.batches.map textT).flatMap textB) ++ [])))))
theorem rpFields_right : rpFields.findIdx (fun f => !f.right) = 6 := by decide +kernel
theorem textT_size (p : Int × ByteArray) : (textT p).size = 8 + p.2.size := by
  unfold textT mkS
  rw [ByteArray.size_append, size_mk, lowB_len]
theorem written_n (size hi n : Int) : GFd.written ⟨1, size, 0, hi, 0⟩ ⟨n, strEmpty, []⟩ = lowB n size.toNat := by
  unfold GFd.written; exact if_pos rfl
theorem written_l (hi most : Int) (l : List ByteArray) : GFd.written ⟨3, 0, 0, hi, most⟩ ⟨0, strEmpty, l⟩ = lowB l.length 1 ++ l.flatMap textB := by
  unfold GFd.written
  rw [if_neg (show ¬ (3 : Int) = 1 by decide), if_neg (show ¬ (3 : Int) = 2 by decide)]
theorem fits_iff {r : Rp} : r.Fit ↔ (GFd.fits ⟨1, 4, 0, 4294967295, 0⟩ ⟨r.corr, strEmpty, []⟩ = true ∧ GFd.fits ⟨1, 1, 0, 255, 0⟩ ⟨r.err, strEmpty, []⟩ = true ∧ GFd.fits ⟨1, 8, 0, 9223372036854775807, 0⟩ ⟨r.base, strEmpty, []⟩ = true ∧ GFd.fits ⟨1, 8, 0, 9223372036854775807, 0⟩ ⟨r.next, strEmpty, []⟩ = true ∧
    GFd.fits ⟨3, 0, 0, 8, 24⟩ ⟨0, strEmpty, r.names⟩ = true ∧ GFd.fits ⟨3, 0, 0, 4, 608⟩ ⟨0, strEmpty, r.batches.map textT⟩ = true) := by
  rw [GFd.fits_num rfl, GFd.fits_num rfl, GFd.fits_num rfl, GFd.fits_num rfl, GFd.fits_texts rfl, GFd.fits_texts rfl]
  constructor
  · rintro ⟨h1, h2, h3, h4, h5, h6⟩
    refine ⟨⟨h1.1, h1.2, rfl, rfl⟩, ⟨h2.1, h2.2, rfl, rfl⟩, ⟨h3.1, h3.2, rfl, rfl⟩, ⟨h4.1, h4.2, rfl, rfl⟩, ⟨by simp, by simp; omega, fun s hs => by have := h5.2 s hs; simp; omega, rfl, rfl⟩, ⟨by simp, by simp; omega, fun s hs => ?_, rfl, rfl⟩⟩
    obtain ⟨p, hp, rfl⟩ := List.mem_map.1 hs
    have := h6.2 p hp
    rw [textT_size]
    simp; omega
  · rintro ⟨⟨a1, a2, -, -⟩, ⟨b1, b2, -, -⟩, ⟨c1, c2, -, -⟩, ⟨d1, d2, -, -⟩, ⟨-, e1, e2, -, -⟩, ⟨-, f1, f2, -, -⟩⟩
    refine ⟨⟨a1, a2⟩, ⟨b1, b2⟩, ⟨c1, c2⟩, ⟨d1, d2⟩, ⟨by simp at e1; omega, fun s hs => by have := e2 s hs; simp at this; omega⟩, ⟨by simp at f1; omega, fun p hp => ?_⟩⟩
    have := f2 _ (List.mem_map_of_mem hp)
    rw [textT_size] at this
    simp at this
    omega
theorem rp_put (r : Rp) : (r.Fit → r.put = .ok (rpB r)) ∧ (¬ r.Fit → isOk r.put = false) := by
  rw [fits_iff]
  have e : r.put = putRest 0 rpFields r.vals := by
    unfold Rp.put gramPut
    rw [rpFields_right, if_neg (by simp [rpFields]), if_pos (by simp [Rp.vals, rpFields])]
  rw [e]
  unfold rpFields Rp.vals
  constructor
  · rintro ⟨h1, h2, h3, h4, h5, h6⟩
    simp only [putRest, h1, h2, h3, h4, h5, h6, if_true, Except.map, written_n, written_l, List.length_map, Int.reduceToNat]
    rfl
  · intro h
    simp only [putRest]
    by_cases h1 : GFd.fits ⟨1, 4, 0, 4294967295, 0⟩ ⟨r.corr, strEmpty, []⟩ = true
    · by_cases h2 : GFd.fits ⟨1, 1, 0, 255, 0⟩ ⟨r.err, strEmpty, []⟩ = true
      · by_cases h3 : GFd.fits ⟨1, 8, 0, 9223372036854775807, 0⟩ ⟨r.base, strEmpty, []⟩ = true
        · by_cases h4 : GFd.fits ⟨1, 8, 0, 9223372036854775807, 0⟩ ⟨r.next, strEmpty, []⟩ = true
          · by_cases h5 : GFd.fits ⟨3, 0, 0, 8, 24⟩ ⟨0, strEmpty, r.names⟩ = true
            · by_cases h6 : GFd.fits ⟨3, 0, 0, 4, 608⟩ ⟨0, strEmpty, r.batches.map textT⟩ = true
              · exact absurd ⟨h1, h2, h3, h4, h5, h6⟩ h
              · simp only [h1, h2, h3, h4, h5, h6, if_true, Except.map, Bool.false_eq_true, if_false]; rfl
            · simp only [h1, h2, h3, h4, h5, if_true, Except.map, Bool.false_eq_true, if_false]; rfl
          · simp only [h1, h2, h3, h4, if_true, Except.map, Bool.false_eq_true, if_false]; rfl
        · simp only [h1, h2, h3, if_true, Except.map, Bool.false_eq_true, if_false]; rfl
      · simp only [h1, h2, if_true, Except.map, Bool.false_eq_true, if_false]; rfl
    · simp only [h1, Bool.false_eq_true, if_false]; rfl
theorem rp_right (r : Rp) : r.right = true ↔ r.Fit ∧ ∀ p ∈ r.batches, 0 ≤ p.1 := by
  unfold Rp.right
  by_cases h : r.Fit
  · rw [(rp_put r).1 h]
    simp [isOk, h]
  · rw [(rp_put r).2 h]
    simp [h]
theorem rp_bytes (r : Rp) (h : r.right = true) : r.bytes = rpB r := by
  unfold Rp.bytes
  rw [if_pos h, (rp_put r).1 ((rp_right r).1 h).1]
  rfl
theorem rp_bytes_no (r : Rp) (h : r.right = false) : r.bytes = [] := by
  unfold Rp.bytes
  rw [if_neg (by simp [h])]
theorem texts_replicate (n : Nat) (s : ByteArray) : ((List.replicate n s).flatMap textB).length = n * (2 + s.size) := by
  induction n with
  | zero => simp
  | succ n ih =>
    rw [List.replicate_succ, List.flatMap_cons, List.length_append, ih, Nat.succ_mul]
    simp [textB, lowB_len, bytesOf_len]
    omega
theorem rpB_len (r : Rp) : (rpB r).length = 23 + (r.names.flatMap textB).length + ((r.batches.map textT).flatMap textB).length := by
  unfold rpB
  simp only [List.length_append, lowB_len, List.length_nil]
  omega

/-! ### A reply's text, there and back -/
theorem leNat_wrap (n : Nat) (i : Nat) (hn : n < 18446744073709551616) (hi : i < 8) : UInt8.ofNat (IntKind.i64.wrap (n : Nat) / 2 ^ (8 * i) % 256).toNat = UInt8.ofNat ((n : Int) / 2 ^ (8 * i) % 256).toNat := by
  congr 2
  rw [IntKind.wrap_i64]
  have key : ∀ m : Int, ((m : Int) - 18446744073709551616) / 2 ^ (8 * i) % 256 = m / 2 ^ (8 * i) % 256 := by
    intro m
    have e : (18446744073709551616 : Int) = 2 ^ (8 * (8 - i)) * 2 ^ (8 * i) := by
      rw [← Int.pow_add, show 8 * (8 - i) + 8 * i = 64 by omega]; decide
    rw [e, Int.sub_ediv_of_dvd _ (Int.dvd_mul_left _ _), Int.mul_ediv_cancel _ (by have : (0 : Int) < 2 ^ (8 * i) := Int.pow_pos (by omega); omega)]
    have e2 : (2 : Int) ^ (8 * (8 - i)) = 2 ^ (8 * (7 - i)) * 256 := by
      rw [show 8 * (8 - i) = 8 * (7 - i) + 8 by omega, Int.pow_add]; rfl
    rw [e2, Int.sub_emod, Int.mul_emod_left]
    simp
  by_cases h : (n : Int) < 9223372036854775808
  · have e : ((n : Int) + 9223372036854775808) % 18446744073709551616 - 9223372036854775808 = n := by omega
    rw [e]
  · have e : ((n : Int) + 9223372036854775808) % 18446744073709551616 - 9223372036854775808 = n - 18446744073709551616 := by omega
    rw [e, key]
theorem lowB_wrap (n : Nat) (hn : n < 18446744073709551616) : lowB (IntKind.i64.wrap (n : Nat)) 8 = lowB n 8 := by
  unfold lowB
  apply List.map_congr_left
  intro i hi
  exact leNat_wrap n i hn (by simpa using hi)
theorem textT_batchT {s : ByteArray} (h : 8 ≤ s.size) : textT (batchT s) = s := by
  unfold textT batchT mkS
  simp only
  have hl : ((bytesOf s).take 8).length = 8 := by rw [List.length_take, bytesOf_len]; omega
  have hlt := leNat_lt ((bytesOf s).take 8)
  rw [hl] at hlt
  rw [lowB_wrap _ (by omega)]
  have := lowB_leNat ((bytesOf s).take 8)
  rw [hl] at this
  rw [this]
  apply ByteArray.ext
  apply Array.toList_inj.1
  rw [ByteArray.data_append, Array.toList_append]
  simp only [ByteArray.data_extract, Array.toList_extract, bytesOf]
  rw [List.extract_eq_take_drop]
  have e2 : s.data.toList.length = s.size := by simp
  have e3 : (s.data.toList.drop 8).take (s.size - 8) = s.data.toList.drop 8 := List.take_of_length_le (by rw [List.length_drop]; omega)
  rw [e3]
  exact List.take_append_drop 8 s.data.toList
theorem vals_back {l : List ByteArray} (h : ∀ s ∈ l, 8 ≤ s.size) : (l.map batchT).map textT = l := by
  rw [List.map_map]
  have : ∀ s ∈ l, (textT ∘ batchT) s = id s := fun s hs => textT_batchT (h s hs)
  rw [List.map_congr_left this, List.map_id]
/-- Whatever is taken as a reply is what Put makes of it. -/
theorem rpGet_inv {b : List UInt8} {r : Rp} (h : rpGet b = .ok r) : r.right = true ∧ r.bytes = b := by
  unfold rpGet at h
  split at h
  · cases h
  · rename_i vs hg
    split at h
    · rename_i a b' c d e f
      split at h
      · cases h
      · rename_i h8
        simp only at h
        split at h
        · rename_i hr
          cases h
          refine ⟨hr, ?_⟩
          have hp := gramPut_get hg
          have h8' : ∀ s ∈ f.l, 8 ≤ s.size := by
            intro s hs
            have h8 : (f.l.any fun s => decide (s.size < 8)) = false := by simpa using h8
            rw [List.any_eq_false] at h8
            have := h8 s hs
            simpa using this
          have hv : Rp.vals ⟨a.n, b'.n, c.n, d.n, e.l, f.l.map batchT⟩ = [a, b', c, d, e, f] := by
            obtain ⟨_, _, hpr⟩ := gramPut_ok hp
            have hfit := putRest_len (by rfl) hpr
            obtain ⟨-, -, a1, a2⟩ := (GFd.fits_num rfl).1 (hfit 0 _ _ rfl rfl)
            obtain ⟨-, -, b1, b2⟩ := (GFd.fits_num rfl).1 (hfit 1 _ _ rfl rfl)
            obtain ⟨-, -, c1, c2⟩ := (GFd.fits_num rfl).1 (hfit 2 _ _ rfl rfl)
            obtain ⟨-, -, d1, d2⟩ := (GFd.fits_num rfl).1 (hfit 3 _ _ rfl rfl)
            obtain ⟨-, -, -, e1, e2⟩ := (GFd.fits_texts rfl).1 (hfit 4 _ _ rfl rfl)
            obtain ⟨-, -, -, f1, f2⟩ := (GFd.fits_texts rfl).1 (hfit 5 _ _ rfl rfl)
            unfold Rp.vals
            simp only [vals_back h8']
            obtain ⟨_, _, _⟩ := a; obtain ⟨_, _, _⟩ := b'; obtain ⟨_, _, _⟩ := c; obtain ⟨_, _, _⟩ := d; obtain ⟨_, _, _⟩ := e; obtain ⟨_, _, _⟩ := f
            simp only at a1 a2 b1 b2 c1 c2 d1 d2 e1 e2 f1 f2
            subst a1 a2 b1 b2 c1 c2 d1 d2 e1 e2 f1 f2
            rfl
          unfold Rp.bytes
          rw [if_pos hr]
          unfold Rp.put
          rw [hv, hp]
          rfl
        · cases h
    · cases h
end Go.X
