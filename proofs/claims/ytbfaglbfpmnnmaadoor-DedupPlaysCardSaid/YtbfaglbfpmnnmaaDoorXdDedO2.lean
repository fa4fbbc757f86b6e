import Derived.Test.YtbfaglbfpmnnmaaDoorXdDedup6
import Derived.Test.YtbfaglbfpmnnmaaDoorXdDedO
namespace Go.Proofs.YtbfaglbfpmnnmaaDoor
set_option linter.unusedSimpArgs false
set_option linter.unusedVariables false
set_option maxRecDepth 100000
attribute [local irreducible] Go.X.xE
open Go Go.X Go.ChangeShapes Go.WideShapes

theorem SODA : structOf Tryd.prog 41 [3, 3, 3] := ⟨by kernel_rfl, by kernel_rfl, by kernel_rfl, by kernel_rfl⟩
theorem UDAL : Tryd.prog.underlying 35 = some (.slice 41) := by kernel_rfl
theorem opensDA {w : World} : OpensE Tryd.prog w 41 encDA fun _ => True := by
  intro H e0 fuel cs x h
  obtain ⟨hl, hf⟩ := trod_struct_types SODA h
  obtain ⟨v0, n0, y0, h0, t0⟩ := hf 0 _ rfl
  obtain ⟨v1, n1, y1, h1, t1⟩ := hf 1 _ rfl
  obtain ⟨v2, n2, y2, h2, t2⟩ := hf 2 _ rfl
  obtain ⟨a, ha, _⟩ := opens_int UI H e0 n0 _ _ t0
  obtain ⟨b, hb, _⟩ := opens_int UI H e0 n1 _ _ t1
  obtain ⟨c, hc, _⟩ := opens_int UI H e0 n2 _ _ t2
  rcases cs with _ | ⟨c0, _ | ⟨c1, _ | ⟨c2, _ | ⟨c3, cs⟩⟩⟩⟩ <;> simp at hl
  simp at h0 h1 h2
  subst h0; subst h1; subst h2
  simp [encI] at ha hb hc
  exact ⟨⟨a, b, c⟩, by rw [ha, hb, hc]; rfl, trivial⟩
theorem open_dasks {w : World} {r : Reach} {b0 : Nat} {H : Type} {e0 : TypeId × Value → H} {v : Value} {d : DataW H} {p : List MemPlace}
    (hv : Value.okWide Tryd.prog w r b0 35 v) (h : DataW.Trod e0 Tryd.prog w 0 (fun _ => true) true 35 v d p) : ∃ l : List DAsk, SlT w encDA v l := by
  obtain ⟨l, h1, _, h2⟩ := open_arg_slice UDAL (by kernel_rfl) encDA_len (by omega) opensDA hv h
  exact ⟨l, h1⟩
end Go.Proofs.YtbfaglbfpmnnmaaDoor
