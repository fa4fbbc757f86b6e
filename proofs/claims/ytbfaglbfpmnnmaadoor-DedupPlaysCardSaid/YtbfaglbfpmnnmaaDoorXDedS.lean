import Derived.Test.YtbfaglbfpmnnmaaDoorXFault
import Derived.Test.YtbfaglbfpmnnmaaDoorXReplyS
namespace Go.X
set_option linter.unusedSimpArgs false
set_option linter.unusedVariables false
open Go Go.RowKit

/-! ## What producers sent, with no program in sight -/
structure Sn where
  seq : Int
  base : Int
  cnt : Int
  deriving DecidableEq
def encSn (x : Sn) : List Value := [.int .i64 x.seq, .int .i64 x.base, .int .i64 x.cnt]
theorem encSn_len (x : Sn) : (encSn x).length = 3 := rfl
theorem encSn_one (x : Sn) : ∀ u ∈ encSn x, u.oneCell' = true := by intro u hu; simp [encSn] at hu; rcases hu with rfl | rfl | rfl <;> rfl
def vSn (x : Sn) : Value := .agg (encSn x).toArray
def snZ : Sn := ⟨0, 0, 0⟩
def opDA : ByteArray := ⟨#[100, 101, 100, 117, 112, 46, 65, 115, 107]⟩
def dedAsk (m : List (Int × Sn)) (p s : Int) : Sn × Bool × Option Er :=
  if p = 0 then (snZ, false, none)
  else if p < 0 ∨ 1048576 < p ∨ s < 0 ∨ 1099511627776 < s then (snZ, false, some (.flt opDA p (.no 1)))
  else match mget m p with
    | some x => if s = x.seq then (x, true, none) else if s = IntKind.i64.wrap (x.seq + 1) then (snZ, false, none) else (snZ, false, some (.flt opDA p (.no 12)))
    | none => if s = 0 then (snZ, false, none) else (snZ, false, some (.flt opDA p (.no 12)))
def dedNote (m : List (Int × Sn)) (p : Int) (s : Sn) : List (Int × Sn) := if p = 0 then m else mset m p s
theorem dedAsk_plain {m : List (Int × Sn)} {p s : Int} {x : Sn} {b : Bool} {e : Er} (h : dedAsk m p s = (x, b, some e)) : ∃ k, e = .flt opDA p (.no k) ∧ (k = 1 ∨ k = 12) ∧ x = snZ ∧ b = false := by
  unfold dedAsk at h
  split at h
  · simp at h
  · split at h
    · simp at h; obtain ⟨h1, h2, h3⟩ := h; exact ⟨1, h3.symm, .inl rfl, h1.symm, h2⟩
    · split at h
      · split at h
        · simp at h
        · split at h
          · simp at h
          · simp at h; obtain ⟨h1, h2, h3⟩ := h; exact ⟨12, h3.symm, .inr rfl, h1.symm, h2⟩
      · split at h
        · simp at h
        · simp at h; obtain ⟨h1, h2, h3⟩ := h; exact ⟨12, h3.symm, .inr rfl, h1.symm, h2⟩
/-- A producer and a number that can be. -/
def dedFine (p s : Int) : Prop := 1 ≤ p ∧ p ≤ 1048576 ∧ 0 ≤ s ∧ s ≤ 1099511627776
theorem ask_zero {m : List (Int × Sn)} {s : Int} : dedAsk m 0 s = (snZ, false, none) := by unfold dedAsk; rw [if_pos rfl]
theorem ask_bad {m : List (Int × Sn)} {p s : Int} (h0 : p ≠ 0) (h : p < 0 ∨ 1048576 < p ∨ s < 0 ∨ 1099511627776 < s) : dedAsk m p s = (snZ, false, some (.flt opDA p (.no 1))) := by
  unfold dedAsk; rw [if_neg h0, if_pos h]
theorem ask_none {m : List (Int × Sn)} {p s : Int} (h : dedFine p s) (hm : mget m p = none) : dedAsk m p s = if s = 0 then (snZ, false, none) else (snZ, false, some (.flt opDA p (.no 12))) := by
  unfold dedAsk dedFine at *
  rw [if_neg (by omega), if_neg (by omega), hm]
theorem ask_some {m : List (Int × Sn)} {p s : Int} {x : Sn} (h : dedFine p s) (hm : mget m p = some x) : dedAsk m p s = if s = x.seq then (x, true, none) else if s = IntKind.i64.wrap (x.seq + 1) then (snZ, false, none) else (snZ, false, some (.flt opDA p (.no 12))) := by
  unfold dedAsk dedFine at *
  rw [if_neg (by omega), if_neg (by omega), hm]
def snSame (x y : Sn) : Bool := decide (x = y)
theorem cellsSn (x : Sn) : ∀ s ∈ [(0, false), (1, false), (2, false)], CellOK (encSn x).toArray s := by
  intro s hs
  simp at hs
  rcases hs with rfl | rfl | rfl
  · exact ⟨x.seq, rfl⟩
  · exact ⟨x.base, rfl⟩
  · exact ⟨x.cnt, rfl⟩
theorem allSn (x y : Sn) : ([(0, false), (1, false), (2, false)].all fun s => cellEq (encSn x).toArray[s.1]? (encSn y).toArray[s.1]?) = decide (x = y) := by
  obtain ⟨a, b, c⟩ := x
  obtain ⟨d, e, f⟩ := y
  simp [encSn, cellEq]
end Go.X
