import Derived.Test.YtoanmeohlpdjfaaDoorXcSem
import Derived.Test.YtoanmeohlpdjfaaDoorXB
namespace Go.Proofs.YtoanmeohlpdjfaaDoor
set_option linter.unusedSimpArgs false
set_option linter.unusedVariables false
set_option maxRecDepth 100000
attribute [local irreducible] Go.X.xE
open Go Go.X

theorem STR : strB Tryd.prog 9 := by unfold strB; kernel_rfl
/-! ## Errors -/
theorem IFE : ifaceB Tryd.prog 24 = true := by kernel_rfl
theorem CEN : concB Tryd.prog 27 = true := by kernel_rfl
theorem CFA : concB Tryd.prog 82 = true := by kernel_rfl
def errV (k : Int) : Value := .iface 27 (.int .i64 k)
def faultV (op : ByteArray) (at_ : Int) (e : Value) : Value := .iface 82 (.agg #[.string op, .int .i64 at_, e])
theorem wrap_ok {op : ByteArray} {at_ : Int} {t : TypeId} {e : Value} {w : World} : Gives Tryd.prog 27 #[.string op, .int .i64 at_, .iface t e] w fun u w' => u = faultV op at_ (.iface t e) ∧ w = w' := by
  refine C_fault_Wrap ?_
  unfold S_fault_Wrap
  simp only [xR_eqlI IFE, xIf_false]
  refine (xP_build (cells := #[.string op, .int .i64 at_, .iface t e]) (by kernel_rfl)).2 ?_
  refine (xP_iface CFA).2 ?_
  exact ⟨rfl, rfl⟩
theorem wrapNil_ok {op : ByteArray} {at_ : Int} {w : World} : Gives Tryd.prog 27 #[.string op, .int .i64 at_, .nilIface] w fun u w' => u = .nilIface ∧ w = w' := by
  refine C_fault_Wrap ?_
  unfold S_fault_Wrap
  simp only [xR_eqlN IFE, xIf_true]
  exact ⟨rfl, rfl⟩

end Go.Proofs.YtoanmeohlpdjfaaDoor
