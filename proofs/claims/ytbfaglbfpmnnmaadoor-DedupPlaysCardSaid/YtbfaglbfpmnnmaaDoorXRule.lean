import Derived.Test.YtbfaglbfpmnnmaaDoorXCode
import Derived.WalkKit
import Derived.WalkLawsBesides
namespace Go.X
set_option linter.unusedSimpArgs false
set_option linter.unusedVariables false
open Go Go.RowKit

/-! ## What each step gives -/
section
variable {P : Program} {w : World} {K : Value → Prop}

theorem xP_of {s : Sem Next} {v : Value} (h : ∀ w, s.run P w = .ok (.value v) w) : xP P s K ↔ K v :=
  ⟨fun ⟨u, hu, hk⟩ => by
    have := (hu default).symm.trans (h default)
    simp at this
    exact this ▸ hk, fun hk => ⟨v, h, hk⟩⟩
theorem xR_of {s : Sem Next} {v : Value} (h : s.run P w = .ok (.value v) w) : xR P s w K ↔ K v :=
  ⟨fun ⟨u, hu, hk⟩ => by
    have := hu.symm.trans h
    simp at this
    exact this ▸ hk, fun hk => ⟨v, h, hk⟩⟩
theorem xE_of {s : Sem Next} {v : Value} {w' : World} {K : Value → World → Prop} (h : s.run P w = .ok (.value v) w') : xE P s w K ↔ K v w' := by
  unfold xE; rw [h]
theorem xE_skip {s : Sem Next} {w' : World} {K : Value → World → Prop} (h : s.run P w = .ok .skip w') : xE P s w K ↔ K undef w' := by
  unfold xE; rw [h]
theorem xStill_of {s : Sem Next} {v : Value} {B : Prop} (h : s.run P w = .ok (.value v) w) : xStill P s v w B ↔ B := ⟨fun h => h.2, fun hb => ⟨h, hb⟩⟩
theorem xR_run {s : Sem Next} {K : Value → Prop} (h : xR P s w K) : ∃ v, s.run P w = .ok (.value v) w ∧ K v := h

theorem run_value (s : Sem Value) : (do pure (Next.value (← s)) : Sem Next).run P w = (s.run P w).andThen fun v w' => .ok (.value v) w' := by
  rw [Sem.run_bind]
  rfl

theorem xIf_true {A B : Prop} : xIf (.bool true) A B ↔ A := by simp [xIf]
theorem xIf_false {A B : Prop} : xIf (.bool false) A B ↔ B := by simp [xIf]
theorem xIf_bool {b : Bool} {A B : Prop} : xIf (.bool b) A B ↔ (b = true → A) ∧ (b = false → B) := by cases b <;> simp [xIf]
theorem xIf_dec {p : Prop} [Decidable p] {A B : Prop} : xIf (.bool (decide p)) A B ↔ (p → A) ∧ (¬ p → B) := by
  by_cases h : p <;> simp [xIf, h]

theorem xP_nil {a : Addr} : xP P (sNil (.pointer (some a))) K ↔ K (.pointer (some a)) := xP_of fun _ => rfl
theorem xP_pick {b : Bool} {u v : Value} : xP P (sPick (.bool b) u v) K ↔ K (if b then u else v) := by
  cases b <;> exact xP_of fun _ => rfl
theorem xP_func {fn : Fn} {a b : Array Value} : xP P (sFunc fn a b) K ↔ K (.func fn a b) := xP_of fun _ => rfl
theorem xP_not {b : Bool} : xP P (sUn .not (.bool b)) K ↔ K (.bool (!b)) := xP_of fun _ => rfl

/-! ### Integers -/
variable {T : TypeId} {k : IntKind} {a b : Int}
theorem xP_add : xP P (sBin .add T (.int k a) (.int k b)) K ↔ K (.int k (k.wrap (a + b))) := xP_of fun w => by simp [sBin, binOp, Op.intArith]
theorem xP_sub : xP P (sBin .sub T (.int k a) (.int k b)) K ↔ K (.int k (k.wrap (a - b))) := xP_of fun w => by simp [sBin, binOp, Op.intArith]
theorem xP_mul : xP P (sBin .mul T (.int k a) (.int k b)) K ↔ K (.int k (k.wrap (a * b))) := xP_of fun w => by simp [sBin, binOp, Op.intArith]
theorem xP_quo (h : b ≠ 0) : xP P (sBin .quo T (.int k a) (.int k b)) K ↔ K (.int k (k.wrap (a.tdiv b))) := xP_of fun w => by simp [sBin, binOp, Op.intDiv, h]
theorem xP_rem (h : b ≠ 0) : xP P (sBin .rem T (.int k a) (.int k b)) K ↔ K (.int k (a.tmod b)) := xP_of fun w => by simp [sBin, binOp, Op.intDiv, h]
theorem xP_lss : xP P (sBin .lss T (.int k a) (.int k b)) K ↔ K (.bool (decide (a < b))) := xP_of fun w => by simp [sBin, binOp, Op.intCmp]
theorem xP_leq : xP P (sBin .leq T (.int k a) (.int k b)) K ↔ K (.bool (decide (a ≤ b))) := xP_of fun w => by simp [sBin, binOp, Op.intCmp]
theorem xP_gtr : xP P (sBin .gtr T (.int k a) (.int k b)) K ↔ K (.bool (decide (b < a))) := xP_of fun w => by simp [sBin, binOp, Op.intCmp]
theorem xP_geq : xP P (sBin .geq T (.int k a) (.int k b)) K ↔ K (.bool (decide (b ≤ a))) := xP_of fun w => by simp [sBin, binOp, Op.intCmp]
theorem xR_eql {c : Bool} : xR P (sEq .eql T c (.int k a) (.int k b)) w K ↔ K (.bool (decide (a = b))) := xR_of (by simp [sEq, eqGuard, binOp, Op.intCmp]; rfl)
theorem xR_neq {c : Bool} : xR P (sEq .neq T c (.int k a) (.int k b)) w K ↔ K (.bool (decide (a ≠ b))) := xR_of (by simp [sEq, eqGuard, binOp, Op.intCmp]; rfl)
theorem xStill_eql {c x : Bool} {B : Prop} (h : x = decide (a = b)) : xStill P (sEq .eql T c (.int k a) (.int k b)) (.bool x) w B ↔ B := xStill_of (by subst h; simp [sEq, eqGuard, binOp, Op.intCmp]; rfl)
theorem xP_max2 {ts : Array TypeId} : xP P (sB .max ts #[.int k a, .int k b]) K ↔ K (.int k (max a b)) := xP_of fun w => by
  simp only [sB, builtin, Builtin.max_, List.foldlM, Builtin.max2, Sem.run_bind, Sem.run_pure, Result.andThen_ok]
  congr 3
  rw [Int.max_def]
  split <;> split <;> omega
theorem xP_min2 {ts : Array TypeId} : xP P (sB .min ts #[.int k a, .int k b]) K ↔ K (.int k (min a b)) := xP_of fun w => by
  simp only [sB, builtin, Builtin.min_, List.foldlM, Builtin.min2, Sem.run_bind, Sem.run_pure, Result.andThen_ok]
  congr 3
  rw [Int.min_def]
  split <;> split <;> omega
end
end Go.X
