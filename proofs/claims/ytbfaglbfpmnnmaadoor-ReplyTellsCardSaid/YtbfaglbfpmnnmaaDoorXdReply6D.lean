import Derived.Test.YtbfaglbfpmnnmaaDoorXdReply5D
namespace Go.Proofs.YtbfaglbfpmnnmaaDoor
set_option linter.unusedSimpArgs false
set_option linter.unusedVariables false
set_option maxRecDepth 100000
attribute [local irreducible] Go.X.xE
open Go Go.X

theorem fit_ok {r : Rp} (h : r.Fit) : okRp r := ⟨by have := h.names.1; omega, by have := h.batches.1; omega, fun p hp => by have := h.batches.2 p hp; omega⟩
theorem bytes_len (r : Rp) : r.bytes.length ≤ 10000 := by
  cases hr : r.right with
  | false => rw [rp_bytes_no r hr]; simp
  | true =>
    rw [rp_bytes r hr, rpB_len]
    have h := ((rp_right r).1 hr).1
    have h1 := texts_len (m := 24) r.names (fun s hs => h.names.2 s hs)
    have h2 := texts_len (m := 608) (r.batches.map textT) (fun s hs => by
      obtain ⟨p, hp, rfl⟩ := List.mem_map.1 hs
      have := h.batches.2 p hp
      rw [textT_size]; omega)
    rw [List.length_map] at h2
    have h3 : r.names.length * (2 + 24) ≤ 8 * (2 + 24) := Nat.mul_le_mul_right _ h.names.1
    have h4 : r.batches.length * (2 + 608) ≤ 4 * (2 + 608) := Nat.mul_le_mul_right _ h.batches.1
    omega
theorem isRp0 (w : World) : IsRp w rawRp0 rpZero := ⟨rfl, rfl, rfl, rfl, SlT.nil_ w _, SlT.nil_ w _⟩
/-- Bytes of one's own, laid behind w. -/
def OwnB (w w' : World) (v : Value) (l : List UInt8) : Prop := ∃ F, Own w' 5 1 v l.length (l.flatMap encB) F ∧ (∀ g ∈ F, w.heap.size ≤ g)
theorem OwnB.slT {w w' : World} {v : Value} {l : List UInt8} (h : OwnB w w' v l) : SlT w' encB v l := by
  obtain ⟨F, ho, _⟩ := h
  exact ho.slT encB_len (by omega)
/-- b[i] ^= x -/
theorem flip_set {p : List UInt8} {i : Nat} {v : UInt8} (hi : i < p.length) : (p.flatMap encB).set i (.int .u8 v.toNat) = (p.set i v).flatMap encB := by
  rw [flat_B, flat_B, List.map_set]

end Go.Proofs.YtbfaglbfpmnnmaaDoor
