import Derived.Test.YtjajjblppogfoaaDoorXpPlogB
import Derived.Test.YtjajjblppogfoaaDoorXpPlogO
namespace Go.Proofs.YtjajjblppogfoaaDoor
set_option linter.unusedSimpArgs false
set_option linter.unusedVariables false
set_option maxRecDepth 100000
attribute [local irreducible] Go.X.xE
open Go Go.X Go.ChangeShapes Go.WideShapes

theorem UBo : Tryd.prog.underlying 4 = some .bool := by kernel_rfl
theorem SOPA : structOf Tryd.prog 67 [3, 3, 3, 4] := ⟨by kernel_rfl, by kernel_rfl, by kernel_rfl, by kernel_rfl⟩
theorem UPAL : Tryd.prog.underlying 65 = some (.slice 67) := by kernel_rfl
theorem opensPA {w : World} : OpensE Tryd.prog w 67 encK fun _ => True := by
  intro H e0 fuel cs x h
  obtain ⟨hl, hf⟩ := trod_struct_types SOPA h
  obtain ⟨v0, n0, y0, h0, t0⟩ := hf 0 _ rfl
  obtain ⟨v1, n1, y1, h1, t1⟩ := hf 1 _ rfl
  obtain ⟨v2, n2, y2, h2, t2⟩ := hf 2 _ rfl
  obtain ⟨v3, n3, y3, h3, t3⟩ := hf 3 _ rfl
  obtain ⟨a, ha, _⟩ := opens_int UI H e0 n0 _ _ t0
  obtain ⟨b, hb, _⟩ := opens_int UI H e0 n1 _ _ t1
  obtain ⟨c, hc, _⟩ := opens_int UI H e0 n2 _ _ t2
  obtain ⟨d, hd, _⟩ := opens_bool UBo H e0 n3 _ _ t3
  rcases cs with _ | ⟨c0, _ | ⟨c1, _ | ⟨c2, _ | ⟨c3, _ | ⟨c4, cs⟩⟩⟩⟩⟩ <;> simp at hl
  simp at h0 h1 h2 h3
  subst h0; subst h1; subst h2; subst h3
  simp [encI] at ha hb hc hd
  exact ⟨⟨a, b, c, d⟩, by rw [ha, hb, hc, hd]; rfl, trivial⟩
theorem open_pasks {w : World} {r : Reach} {b0 : Nat} {H : Type} {e0 : TypeId × Value → H} {v : Value} {d : DataW H} {p : List MemPlace}
    (hv : Value.okWide Tryd.prog w r b0 65 v) (h : DataW.Trod e0 Tryd.prog w 0 (fun _ => true) true 65 v d p) : ∃ l : List Ak, SlT w encK v l := by
  obtain ⟨l, h1, _, h2⟩ := open_arg_slice UPAL (by kernel_rfl) encK_len (by omega) opensPA hv h
  exact ⟨l, h1⟩
end Go.Proofs.YtjajjblppogfoaaDoor
