import Derived.Test.YtbfaglbfpmnnmaaDoorXLib2
namespace Go.X
set_option linter.unusedSimpArgs false
set_option linter.unusedVariables false
open Go Go.RowKit

section
variable {P : Program} {T : TypeId} {K : Value → Prop} {w : World}
/-! ## Interfaces, tuples -/
def concB (P : Program) (T : TypeId) : Bool := match P.underlying T with
  | some (.interface _) => false
  | some _ => true
  | none => false
theorem xP_iface {v : Value} (h : concB P T = true) : xP P (sIface T v) K ↔ K (.iface T v) := by
  refine xP_of fun w => ?_
  unfold concB at h
  unfold sIface
  refine run_sB P _ w ?_
  cases hu : P.underlying T with
  | none => rw [hu] at h; cases h
  | some d =>
    rw [hu] at h
    simp only [Instr.makeInterface, Sem.run_bind, run_underlying hu, Result.andThen_ok]
    cases d <;> first | rfl | cases h
def ifaceB (P : Program) (T : TypeId) : Bool := match P.underlying T with
  | some (.interface _) => true
  | _ => false
theorem ifaceB_spec (h : ifaceB P T = true) : ∃ ms, P.underlying T = some (.interface ms) := by
  unfold ifaceB at h
  split at h
  · rename_i ms hu; exact ⟨ms, hu⟩
  · cases h
theorem eqIfaceIn {v : Value} {t : TypeId} (h : ifaceB P T = true) (d : Nat) : (Op.equalIn (d + 1) T (.iface t v) .nilIface).run P w = .ok false w := by
  obtain ⟨ms, hu⟩ := ifaceB_spec h
  simp only [Op.equalIn, Sem.run_bind, run_underlying hu, Result.andThen_ok]
  rfl
theorem eqNilIn (h : ifaceB P T = true) (d : Nat) : (Op.equalIn (d + 1) T .nilIface .nilIface).run P w = .ok true w := by
  obtain ⟨ms, hu⟩ := ifaceB_spec h
  simp only [Op.equalIn, Sem.run_bind, run_underlying hu, Result.andThen_ok]
  rfl
theorem run_eqIface {v : Value} {t : TypeId} (h : ifaceB P T = true) : (Op.equal T (.iface t v) .nilIface).run P w = .ok false w := eqIfaceIn h 9999
theorem run_eqNil (h : ifaceB P T = true) : (Op.equal T .nilIface .nilIface).run P w = .ok true w := eqNilIn h 9999
theorem xR_eqlI {v : Value} {t : TypeId} (h : ifaceB P T = true) : xR P (sEq .eql T true (.iface t v) .nilIface) w K ↔ K (.bool false) := xR_of (by
  unfold sEq
  refine run_sB P _ w ?_
  simp only [Sem.run_bind, eqGuard, binOp, run_eqIface h, Result.andThen_ok, Sem.run_pure]
  rfl)
theorem xR_eqlN (h : ifaceB P T = true) : xR P (sEq .eql T true .nilIface .nilIface) w K ↔ K (.bool true) := xR_of (by
  unfold sEq
  refine run_sB P _ w ?_
  simp only [Sem.run_bind, eqGuard, binOp, run_eqNil h, Result.andThen_ok, Sem.run_pure]
  rfl)
theorem xR_neqI {v : Value} {t : TypeId} (h : ifaceB P T = true) : xR P (sEq .neq T true (.iface t v) .nilIface) w K ↔ K (.bool true) := xR_of (by
  unfold sEq
  refine run_sB P _ w ?_
  simp only [Sem.run_bind, eqGuard, binOp, run_eqIface h, Result.andThen_ok, Sem.run_pure]
  rfl)
theorem xR_neqN (h : ifaceB P T = true) : xR P (sEq .neq T true .nilIface .nilIface) w K ↔ K (.bool false) := xR_of (by
  unfold sEq
  refine run_sB P _ w ?_
  simp only [Sem.run_bind, eqGuard, binOp, run_eqNil h, Result.andThen_ok, Sem.run_pure]
  rfl)
theorem xP_extract {vs : Array Value} {i : Nat} {v : Value} (h : vs[i]? = some v) : xP P (sExtract (.tuple vs) i) K ↔ K v := xP_of fun w => by
  unfold sExtract
  refine run_sB P _ w ?_
  simp only [Instr.extract, h]
  rfl
end
theorem xP_ex0 {P : Program} {K : Value → Prop} {a b : Value} : xP P (sExtract (.tuple #[a, b]) 0) K ↔ K a := xP_extract rfl
theorem xP_ex1 {P : Program} {K : Value → Prop} {a b : Value} : xP P (sExtract (.tuple #[a, b]) 1) K ↔ K b := xP_extract rfl
end Go.X
