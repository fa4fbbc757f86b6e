import Derived.Test.YtbfaglbfpmnnmaaXrReply7
namespace Go.Proofs.Ytbfaglbfpmnnmaa
set_option linter.unusedSimpArgs false
set_option linter.unusedVariables false
open Go Go.X

def zs (k : Nat) : ByteArray := mkS (List.replicate k 0)
theorem zs_size (k : Nat) : (zs k).size = k := by unfold zs mkS; rw [size_mk]; simp
def endR (corr err base next : Int) (names : List ByteArray) (bats : List (Int × ByteArray)) : Rp := ⟨corr, err, base, next, names, bats⟩
def names0 (k : Nat) : List ByteArray := List.replicate k (zs 24)
def bats0 (k : Nat) : List (Int × ByteArray) := List.replicate k (9223372036854775807, zs 600)
def end0 (N M : Nat) : Rp := ⟨4294967295, 255, 9223372036854775807, 9223372036854775807, names0 N, bats0 M⟩
theorem end0_right {N M : Nat} (hN : N ≤ 8) (hM : M ≤ 4) : (end0 N M).right = true := by
  rw [rp_right]
  refine ⟨⟨by simp [end0], by simp [end0], by simp [end0], by simp [end0], ⟨by simp [end0, names0]; omega, fun s hs => ?_⟩, ⟨by simp [end0, bats0]; omega, fun p hp => ?_⟩⟩, fun p hp => ?_⟩
  · simp only [end0, names0] at hs
    rw [(List.mem_replicate.1 hs).2, zs_size]; omega
  · simp only [end0, bats0] at hp
    rw [(List.mem_replicate.1 hp).2]
    show (zs 600).size ≤ 600
    rw [zs_size]; omega
  · simp only [end0, bats0] at hp
    rw [(List.mem_replicate.1 hp).2]
    show (0 : Int) ≤ 9223372036854775807
    omega
theorem end0_len {N M : Nat} (hN : N ≤ 8) (hM : M ≤ 4) : (end0 N M).bytes.length = 23 + 26 * N + 610 * M := by
  rw [rp_bytes _ (end0_right hN hM), rpB_len]
  simp only [end0, names0, bats0, List.map_replicate]
  rw [texts_replicate, texts_replicate, zs_size, textT_size]
  simp only [zs_size]
  omega
theorem zeros_flat (k : Nat) : (List.replicate k (0 : UInt8)).flatMap encB = List.replicate k (.int .u8 0) := by
  rw [flat_B, List.map_replicate]; rfl

/-- Which of its parts is turned. -/
inductive Turned (N M : Nat) : Rp → Prop where
  | corr : Turned N M { end0 N M with corr := 4294967296 }
  | err : Turned N M { end0 N M with err := 256 }
  | base : Turned N M { end0 N M with base := -1 }
  | next : Turned N M { end0 N M with next := -1 }
  | names : Turned N M { end0 N M with names := (names0 N).set 0 (zs 25) }
  | bbase : Turned N M { end0 N M with batches := (bats0 M).set 0 (-1, zs 600) }
  | bdata : Turned N M { end0 N M with batches := (bats0 M).set 0 (9223372036854775807, zs 601) }
theorem turned_wrong {N M : Nat} (hN : 1 ≤ N) (hM : 1 ≤ M) {r : Rp} (h : Turned N M r) : r.right = false := by
  cases hr : r.right with
  | false => rfl
  | true =>
    exfalso
    obtain ⟨hf, hb⟩ := (rp_right r).1 hr
    cases h with
    | corr => have := hf.corr.2; simp at this
    | err => have := hf.err.2; simp at this
    | base => have := hf.base.1; simp at this
    | next => have := hf.next.1; simp at this
    | names =>
      have := hf.names.2 (zs 25) (by
        show zs 25 ∈ (names0 N).set 0 (zs 25)
        exact List.mem_set (l := names0 N) (by simp [names0]; omega) _)
      rw [zs_size] at this
      omega
    | bbase =>
      have := hb (-1, zs 600) (List.mem_set (l := bats0 M) (by simp [bats0]; omega) _)
      simp at this
    | bdata =>
      have := hf.batches.2 (9223372036854775807, zs 601) (List.mem_set (l := bats0 M) (by simp [bats0]; omega) _)
      simp only [zs_size] at this
      omega
theorem turned_ok {N M : Nat} (hN : N ≤ 8) (hM : M ≤ 4) {r : Rp} (h : Turned N M r) : okRp r := by
  have h0 : ∀ p ∈ bats0 M, p.2.size ≤ 1000000000 := fun p hp => by
    simp only [bats0] at hp
    rw [(List.mem_replicate.1 hp).2]
    show (zs 600).size ≤ _
    rw [zs_size]; omega
  have h1 : ∀ q : Int × ByteArray, q.2.size ≤ 1000000000 → ∀ p ∈ (bats0 M).set 0 q, p.2.size ≤ 1000000000 := fun q hq p hp => by
    rcases List.mem_or_eq_of_mem_set hp with hp | rfl
    · exact h0 p hp
    · exact hq
  cases h with
  | names => exact ⟨by simp [names0]; omega, by simp [end0, bats0]; omega, h0⟩
  | bbase => exact ⟨by simp [end0, names0]; omega, by simp [bats0]; omega, h1 _ (by show (zs 600).size ≤ _; rw [zs_size]; omega)⟩
  | bdata => exact ⟨by simp [end0, names0]; omega, by simp [bats0]; omega, h1 _ (by show (zs 601).size ≤ _; rw [zs_size]; omega)⟩
  | _ => exact ⟨by simp [end0, names0]; omega, by simp [end0, bats0]; omega, h0⟩
end Go.Proofs.Ytbfaglbfpmnnmaa
