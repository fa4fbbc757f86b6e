import Derived.Test.YtclojjiiiejfpaaDoorXgBatch4
import Derived.Test.YtclojjiiiejfpaaDoorXgGramO
namespace Go.Proofs.YtclojjiiiejfpaaDoor
set_option linter.unusedSimpArgs false
set_option linter.unusedVariables false
set_option maxRecDepth 100000
attribute [local irreducible] Go.X.xE
open Go Go.X Go.ChangeShapes Go.WideShapes

theorem SOBt : structOf Tryd.prog 63 [3, 3, 3, 30] := ⟨by kernel_rfl, by kernel_rfl, by kernel_rfl, by kernel_rfl⟩
theorem open_batch {w : World} {r : Reach} {b0 : Nat} {H : Type} {e0 : TypeId × Value → H} {v : Value} {d : DataW H} {p : List MemPlace}
    (hv : Value.okWide Tryd.prog w r b0 63 v) (h : DataW.Trod e0 Tryd.prog w 0 (fun _ => true) true 63 v d p) : ∃ y : Bt × Value, v = vBt y.1 y.2 ∧ SlT w encS y.2 y.1.v := by
  obtain ⟨cs, rfl, hl, hf⟩ := open_arg_struct SOBt hv h
  obtain ⟨v0, n0, y0, h0, t0⟩ := hf 0 _ rfl
  obtain ⟨v1, n1, y1, h1, t1⟩ := hf 1 _ rfl
  obtain ⟨v2, n2, y2, h2, t2⟩ := hf 2 _ rfl
  obtain ⟨v3, n3, y3, h3, t3⟩ := hf 3 _ rfl
  obtain ⟨a0, ha0, _⟩ := opens_int UI H e0 n0 _ _ t0
  obtain ⟨a1, ha1, _⟩ := opens_int UI H e0 n1 _ _ t1
  obtain ⟨a2, ha2, _⟩ := opens_int UI H e0 n2 _ _ t2
  obtain ⟨u3, l3, hu3, hs3, _, _⟩ := opens_slice USL (by kernel_rfl) encS_len (by omega) (opens_str STR) H e0 n3 _ _ t3
  rcases cs with _ | ⟨c0, _ | ⟨c1, _ | ⟨c2, _ | ⟨c3, _ | ⟨c4, cs⟩⟩⟩⟩⟩ <;> simp at hl
  simp at h0 h1 h2 h3
  subst h0; subst h1; subst h2; subst h3
  simp [encI] at ha0 ha1 ha2
  simp at hu3
  subst ha0; subst ha1; subst ha2; subst hu3
  exact ⟨(⟨a0, a1, a2, l3⟩, c3), rfl, hs3⟩
end Go.Proofs.YtclojjiiiejfpaaDoor
