import Derived.Test.YtoanmeohlpdjfaaDoorXcFaultP2
namespace Go.Proofs.YtoanmeohlpdjfaaDoor
set_option linter.unusedSimpArgs false
set_option linter.unusedVariables false
set_option maxRecDepth 100000
attribute [local irreducible] Go.X.xE
open Go Go.X Go.RowKit

/-! ## An error, or none -/
def optV : Option Er → Value
  | none => .nilIface
  | some e => erV e
theorem optV_eql {e : Option Er} {w : World} {K : Value → Prop} : xR Tryd.prog (sEq .eql 24 true (optV e) .nilIface) w K ↔ K (.bool e.isNone) := by
  cases e with
  | none => exact xR_eqlN IFE
  | some e => exact erV_eql
theorem optV_neq {e : Option Er} {w : World} {K : Value → Prop} : xR Tryd.prog (sEq .neq 24 true (optV e) .nilIface) w K ↔ K (.bool e.isSome) := by
  cases e with
  | none => exact xR_neqN IFE
  | some e => exact erV_neq
def optKind : Option Er → Int
  | none => 0
  | some e => e.kind
theorem kindO_ok {e : Option Er} (hp : ∀ x, e = some x → Er.plain x) {w : World} (hg : Glob w) : Gives Tryd.prog 13 #[optV e] w fun u w' => u = .int .i64 (optKind e) ∧ Kept [] w w' := by
  cases e with
  | none => exact kindNil_ok
  | some e => exact kind_ok (hp e rfl) hg
theorem kindS {e : Option Er} {w : World} {K : Value → World → Prop} (hp : ∀ x, e = some x → Er.plain x) (hg : Glob w) (k : ∀ w', Kept [] w w' → K (.int .i64 (optKind e)) w') : xE Tryd.prog (sCall 13 #[optV e]) w K :=
  xE_call CF_13 (kindO_ok hp hg) (fun u w' ⟨h1, h2⟩ => by subst h1; exact k w' h2)
end Go.Proofs.YtoanmeohlpdjfaaDoor
