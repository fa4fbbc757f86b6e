import Derived.Test.YtjajjblppogfoaaDoorXpPlog4
import Derived.Test.YtjajjblppogfoaaDoorXpDoorP
import Derived.Test.YtjajjblppogfoaaDoorXB
namespace Go.Proofs.YtjajjblppogfoaaDoor
set_option linter.unusedSimpArgs false
set_option linter.unusedVariables false
set_option maxRecDepth 100000
attribute [local irreducible] Go.X.xE
open Go Go.X Go.ChangeShapes Go.WideShapes

theorem UIL : Tryd.prog.underlying 56 = some (.slice 3) := by kernel_rfl
theorem UI : Tryd.prog.underlying 3 = some (.int .i64) := by kernel_rfl
theorem open_ints {w : World} {r : Reach} {b0 : Nat} {H : Type} {e0 : TypeId × Value → H} {v : Value} {d : DataW H} {p : List MemPlace}
    (hv : Value.okWide Tryd.prog w r b0 56 v) (h : DataW.Trod e0 Tryd.prog w 0 (fun _ => true) true 56 v d p) : ∃ l : List Int, SlT w encI v l := by
  obtain ⟨l, h1, _, h2⟩ := open_arg_slice UIL (by kernel_rfl) encI_len (by omega) (opens_int UI) hv h
  exact ⟨l, h1⟩
end Go.Proofs.YtjajjblppogfoaaDoor
