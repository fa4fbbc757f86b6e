import Derived.Test.YtbfaglbfpmnnmaaDoorXErr
namespace Go.X
set_option linter.unusedSimpArgs false
set_option linter.unusedVariables false
open Go Go.RowKit

section
variable {α : Type} {P : Program} {T E : TypeId} {sz : Nat} {enc : α → List Value} {w : World}
/-- s[i:j] -/
theorem xP_slice {K : Value → Prop} {a : Option Addr} {n c : Nat} {q q' : IntKind} {i j : Int} (h : sliceB P T E = true) (hs : sizeB P E sz = true) (h0 : 0 ≤ i) (h1 : i ≤ j) (h2 : j ≤ c) :
    xP P (sSlice T (.slice a n c) (some (.int q i)) (some (.int q' j)) none) K ↔ K (.slice (if c = i.toNat then a else a.map (·.add (i.toNat * sz))) (j.toNat - i.toNat) (c - i.toNat)) := by
  refine xP_of fun w => ?_
  obtain ⟨e, he, hsz⟩ := sizeB_spec hs
  have hu := sliceB_spec h
  obtain ⟨j, rfl⟩ := Int.eq_ofNat_of_zero_le (show 0 ≤ j by omega)
  obtain ⟨i, rfl⟩ := Int.eq_ofNat_of_zero_le h0
  have h1' : i ≤ j := by omega
  have h2' : j ≤ c := by omega
  unfold sSlice
  rw [run_value]
  simp [Instr.sliceAt, Instr.slice, underlying, hu, Instr.sliceBounds, Instr.sliceBound, asIntOf, h1', h2', sizeOf_run he hsz]
/-- s[:j] -/
theorem xP_upto {K : Value → Prop} {a : Option Addr} {n c : Nat} {q' : IntKind} {j : Int} (h : sliceB P T E = true) (hs : sizeB P E sz = true) (h1 : 0 ≤ j) (h2 : j ≤ c) :
    xP P (sSlice T (.slice a n c) none (some (.int q' j)) none) K ↔ K (.slice (if c = 0 then a else a.map (·.add (0 * sz))) j.toNat c) := by
  refine xP_of fun w => ?_
  obtain ⟨e, he, hsz⟩ := sizeB_spec hs
  have hu := sliceB_spec h
  obtain ⟨j, rfl⟩ := Int.eq_ofNat_of_zero_le h1
  have h2' : j ≤ c := by omega
  unfold sSlice
  rw [run_value]
  simp [Instr.sliceAt, Instr.slice, underlying, hu, Instr.sliceBounds, Instr.sliceBound, asIntOf, h2', sizeOf_run he hsz]
theorem SlT.sub {a : Option Addr} {c i j : Nat} {l : List α} (hsz : ∀ x, (enc x).length = sz) (h : SlT w enc (.slice a l.length c) l) (hij : i ≤ j) (hj : j ≤ l.length) :
    SlT w enc (.slice (if c = i then a else a.map (·.add (i * sz))) (j - i) (c - i)) ((l.drop i).take (j - i)) := by
  obtain ⟨a', c', hv, hc, hr⟩ := h
  cases hv
  have hlen : ((l.drop i).take (j - i)).length = j - i := by rw [List.length_take, List.length_drop]; omega
  refine ⟨_, c - i, by rw [hlen], by rw [hlen]; omega, ?_⟩
  rcases hr with rfl | ⟨b, o, rfl, hat⟩
  · exact .inl (by simp)
  · by_cases hci : c = i
    · left
      have : j - i = 0 := by omega
      rw [this, List.take_zero]
    · right
      refine ⟨b, o + i * sz, by rw [if_neg hci]; simp [add_none], ?_⟩
      have := (hat.sub (i * sz) ((j - i) * sz))
      rwa [flat_drop hsz, flat_take hsz] at this
end

theorem leNat_snoc (l : List UInt8) (x : UInt8) : leNat (l ++ [x]) = leNat l + x.toNat * 256 ^ l.length := by
  induction l with
  | nil => simp [leNat]
  | cons a l ih =>
    have e : x.toNat * 256 ^ (l.length + 1) = 256 * (x.toNat * 256 ^ l.length) := by rw [Nat.pow_succ, ← Nat.mul_assoc, Nat.mul_comm]
    simp only [List.cons_append, leNat, ih, List.length_cons, e, Nat.mul_add]
    omega
theorem or_add {a x i : Nat} (h : a < 2 ^ i) : a ||| (x * 2 ^ i) = a + x * 2 ^ i := by
  have := Nat.shiftLeft_add_eq_or_of_lt h x
  rw [Nat.shiftLeft_eq] at this
  rw [Nat.or_comm, ← this, Nat.add_comm]
theorem or_u64 {a b : Nat} (h : (a ||| b) < 2 ^ 64) : IntKind.u64.wrap ((BitVec.ofInt 64 (a : Int) ||| BitVec.ofInt 64 (b : Int)).toNat : Nat) = ((a ||| b : Nat) : Int) := by
  have e : (BitVec.ofInt 64 (a : Int) ||| BitVec.ofInt 64 (b : Int)).toNat = a ||| b := by
    rw [BitVec.toNat_or, BitVec.toNat_ofInt, BitVec.toNat_ofInt]
    have ha : a < 2 ^ 64 := Nat.lt_of_le_of_lt Nat.left_le_or h
    have hb : b < 2 ^ 64 := Nat.lt_of_le_of_lt Nat.right_le_or h
    have e1 : ((a : Int) % ((2 : Nat) ^ 64 : Nat)).toNat = a := by omega
    have e2 : ((b : Int) % ((2 : Nat) ^ 64 : Nat)).toNat = b := by omega
    rw [e1, e2]
  rw [e]
  exact wrapU64 (by omega) (by omega)
theorem xP_orU {P : Program} {T : TypeId} {K : Value → Prop} {a b : Nat} (h : (a ||| b) < 2 ^ 64) : xP P (sBin .or T (.int .u64 a) (.int .u64 b)) K ↔ K (.int .u64 ((a ||| b : Nat) : Int)) :=
  xP_or.trans (Iff.of_eq (congrArg (fun z => K (.int .u64 z)) (or_u64 h)))
end Go.X
