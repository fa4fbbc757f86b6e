import Derived.Test.YtbfaglbfpmnnmaaDoorXLib5
import Derived.Stop.Asserts
import Derived.Laws.Externs
namespace Go.X
set_option linter.unusedSimpArgs false
set_option linter.unusedVariables false
open Go Go.RowKit Go.Extern

/-! ## Functions without a body; calls through an interface -/
section
variable {P : Program} {w : World} {K : Value → World → Prop}
theorem xE_extern {f : FuncId} {fn : Func} {e : Array Value → Sem Value} (hf : P.funcs[f]? = some fn) (hname : (fn.name == "runtime.NumGoroutine") = false) (hb : fn.body.isNone = true) (hn : Extern.findNext fn = none) (he : Extern.find fn = some e)
    {args : Array Value} {v : Value} {w' : World} (hr : (e args).run P w = .ok v w') (k : K v w') : xE P (sCall f args) w K := by
  have e1 : sCall f args = callFunc f ((#[] ++ args) ++ #[]) := rfl
  have h := run_callFunc_extern hf hname hb hn he args w
  rw [hr] at h
  refine (xE_of (v := v) (w' := w') ?_).2 k
  rw [e1, Array.empty_append, Array.append_empty, h]
  rfl
theorem xE_invoke1 {m : String} {t : TypeId} {v r : Value} {f : FuncId} (hm : (Go.method (P.types.size + Made.depth) t v m).run P w = .ok (f, r) w) (h : xE P (sCall f #[r]) w K) : xE P (sInvoke m #[.iface t v]) w K := by
  have e1 : (sInvoke m #[.iface t v]).run P w = (sCall f #[r]).run P w := by
    have e2 : sCall f #[r] = callFunc f #[r] := rfl
    have e3 : sInvoke m #[.iface t v] = callMethod (.iface t v) m #[] := rfl
    rw [e2, e3]
    unfold callMethod
    simp only [Sem.run_bind, run_program, Result.andThen_ok, hm]
    rfl
  unfold xE at h ⊢
  rw [e1]; exact h
theorem xE_invoke2 {m : String} {t : TypeId} {v r a : Value} {f : FuncId} (hm : (Go.method (P.types.size + Made.depth) t v m).run P w = .ok (f, r) w) (h : xE P (sCall f #[r, a]) w K) : xE P (sInvoke m #[.iface t v, a]) w K := by
  have e1 : (sInvoke m #[.iface t v, a]).run P w = (sCall f #[r, a]).run P w := by
    have e2 : sCall f #[r, a] = callFunc f #[r, a] := rfl
    have e3 : sInvoke m #[.iface t v, a] = callMethod (.iface t v) m #[a] := rfl
    rw [e2, e3]
    unfold callMethod
    simp only [Sem.run_bind, run_program, Result.andThen_ok, hm]
    rfl
  unfold xE at h ⊢
  rw [e1]; exact h
theorem xP_assert {K : Value → Prop} {x r : Value} {t a : TypeId} (h : ∀ w, (Instr.typeAssert x t a true).run P w = .ok r w) : xP P (sAssert x t a true) K ↔ K r := xP_of fun w => by
  unfold sAssert
  exact run_sB P _ w (h w)
end
/-! ## internal/reflectlite's entries that read or write memory -/
theorem rlm (z : Sem Value) (f : TypeId → Addr → Nat → Nat → Sem Value) (v : Value) :
    ReflectliteValue.method z f #[v] = (do match ← ReflectliteValue.parts v with | none => z | some (t, a, fl) => f t a fl (fl % 32)) := rfl
theorem rls (v x : Value) : ReflectliteValue.set #[v, x] = (do
    let (some (dst, a, fl), some (src, b, _)) := (← ReflectliteValue.parts v, ← ReflectliteValue.parts x)
      | unsupported (.noEntry "extern/(internal/reflectlite.Value).Set.zeroValue")
    if fl / ReflectliteValue.flagAddr % 2 == 0 then unsupported (.noEntry "extern/(internal/reflectlite.Value).Set.unaddressable")
    let val ← loadVar src b
    if ← Rtype.directlyAssignable dst src then storeVar dst a val
    else if ← Rtype.implements dst src then
      if (← Rtype.kind src) == 20 then
        match val with
        | .nilIface => unsupported (.noEntry "extern/reflectlite: a nil value of one interface type handed on as a value of another")
        | _ => storeVar dst a val
      else storeVar dst a (.iface src val)
    else panicString ("reflectlite.Set: value of type " ++ (← Rtype.spelt src) ++ " is not assignable to type " ++ (← Rtype.spelt dst))
    pure (.tuple #[])) := rfl
section
variable {P : Program} {w : World}
theorem rl_isNil {v : Value} {T : TypeId} {a p : Addr} {fl : Nat} (hp : (ReflectliteValue.parts v).run P w = .ok (some (T, a, fl)) w) (hk : ([18, 19, 20, 21, 22, 23, 26].contains (fl % 32)) = true) (h1 : oneB P T = true) (ha : w.cell? a = some (.pointer (some p))) :
    (ReflectliteValue.method (ReflectliteValue.valueError "reflectlite.Value.IsNil" 0) ReflectliteValue.isNil #[v]).run P w = .ok (.bool false) w := by
  rw [rlm]
  simp only [Sem.run_bind, hp, Result.andThen_ok]
  unfold ReflectliteValue.isNil
  have hl : (loadVar T a).run P w = .ok (.pointer (some p)) w := by
    simp only [loadVar, Sem.run_bind, isAgg_one h1, Result.andThen_ok, Bool.false_eq_true, if_false, run_load, ha]
  simp only [hk, Bool.not_true, Bool.false_eq_true, if_false, Sem.run_bind, hl, Result.andThen_ok, Sem.run_pure]
theorem rl_elem {v r : Value} {T E : TypeId} {a p : Addr} {fl : Nat} (hp : (ReflectliteValue.parts v).run P w = .ok (some (T, a, fl)) w) (hk : fl % 32 = 22) (h1 : oneB P T = true) (ha : w.cell? a = some (.pointer (some p)))
    (he : (Rtype.elem? T).run P w = .ok (some E) w) (hm : (ReflectliteValue.mk E p ReflectliteValue.flagAddr).run P w = .ok r w) :
    (ReflectliteValue.method (ReflectliteValue.valueError "reflectlite.Value.Elem" 0) ReflectliteValue.elem #[v]).run P w = .ok r w := by
  rw [rlm]
  simp only [Sem.run_bind, hp, Result.andThen_ok]
  unfold ReflectliteValue.elem
  have hl : (loadVar T a).run P w = .ok (.pointer (some p)) w := by
    simp only [loadVar, Sem.run_bind, isAgg_one h1, Result.andThen_ok, Bool.false_eq_true, if_false, run_load, ha]
  simp [hk, hl, he, hm]
theorem rl_set {v x val : Value} {T : TypeId} {a b : Addr} {fl fl' : Nat} {w' : World} (hp : (ReflectliteValue.parts v).run P w = .ok (some (T, a, fl)) w) (hx : (ReflectliteValue.parts x).run P w = .ok (some (T, b, fl')) w)
    (hf : (fl / ReflectliteValue.flagAddr % 2 == 0) = false) (hl : (loadVar T b).run P w = .ok val w) (hd : (Rtype.directlyAssignable T T).run P w = .ok true w) (hs : (storeVar T a val).run P w = .ok () w') :
    (ReflectliteValue.set #[v, x]).run P w = .ok (.tuple #[]) w' := by
  rw [rls]
  simp only [Sem.run_bind, hp, hx, Result.andThen_ok, hf, Bool.false_eq_true, if_false, hl, hd, if_true, hs, Sem.run_pure]
theorem load_of_s {T : TypeId} {a : Addr} {v : Value} (h : (sLoad T (.pointer (some a))).run P w = .ok (.value v) w) : (loadVar T a).run P w = .ok v w := by
  have h' := load_pointer h
  simpa [asAddr] using h'
theorem store_of_s {T : TypeId} {a : Addr} {v : Value} {w' : World} (h : (sStore T (.pointer (some a)) v).run P w = .ok .skip w') : (storeVar T a v).run P w = .ok () w' := by
  unfold sStore at h
  simp only [Instr.storeAt, Instr.sureAddr, pure_bind, Sem.run_bind] at h
  cases hr : (storeVar T a v).run P w with
  | ok u w2 =>
    rw [hr] at h
    simp at h
    obtain ⟨rfl⟩ := h
    rfl
  | halt x w2 => rw [hr] at h; simp at h
end
end Go.X
