import Derived.Test.YtoanmeohlpdjfaaDoorXcFaultP0
import Derived.Test.YtoanmeohlpdjfaaDoorXB
namespace Go.Proofs.YtoanmeohlpdjfaaDoor
set_option linter.unusedSimpArgs false
set_option linter.unusedVariables false
set_option maxRecDepth 100000
attribute [local irreducible] Go.X.xE
open Go Go.X Go.Extern Go.RowKit

/-! ## Errors, found by errors.As and errors.Is -/
def erV : Er → Value
  | .no k => errV k
  | .loss a b c => .iface 0 (.agg #[.int .i64 a, .int .i64 b, .int .i64 c])
  | .flt op i e => faultV op i (erV e)
theorem wrapE_ok {op : ByteArray} {at_ : Int} {e : Er} {w : World} : Gives Tryd.prog 27 #[.string op, .int .i64 at_, erV e] w fun u w' => u = erV (.flt op at_ e) ∧ w = w' := by
  cases e <;> exact wrap_ok
def hdl (T : TypeId) : Value := .pointer (some ⟨1, T, none⟩)
def rtV (T : TypeId) : Value := .iface 106 (.agg #[hdl T])
def rvV (T : TypeId) (a : Addr) (fl : Int) : Value := .agg #[hdl T, .pointer (some a), .int .u64 fl]
/-- What the start lays: package errors' errorType. -/
def Glob (w : World) : Prop := w.cell? ⟨0, 0, none⟩ = some (rtV 24)
theorem Glob.lt {w : World} (h : Glob w) : 0 < w.heap.size := by
  unfold Glob at h
  simpa using block_lt_of_cell h
theorem Glob.kept {w w' : World} {M : List Nat} (h : Glob w) (hk : Kept M w w') (hM : 0 ∉ M) : Glob w' :=
  (World.cell?_of_block (hk.block _ h.lt hM)).trans h
theorem Glob.kept0 {w w' : World} (h : Glob w) (hk : Kept [] w w') : Glob w' := h.kept hk (by simp)

/-! ### The entries -/
theorem xValueOf {args : Array Value} {v : Value} {w w' : World} {K : Value → World → Prop} (hr : (ReflectliteValue.unpack (args.getD 0 (.tuple #[]))).run Tryd.prog w = .ok v w') (k : K v w') : xE Tryd.prog (sCall 41 args) w K :=
  xE_extern (e := fun args => ReflectliteValue.unpack (args.getD 0 (.tuple #[]))) Tryd.func41 (by kernel_rfl) (by kernel_rfl) (by kernel_rfl) (by kernel_rfl) hr k
theorem xType {args : Array Value} {v : Value} {w w' : World} {K : Value → World → Prop} (hr : (ReflectliteValue.methodAny (ReflectliteValue.valueError "reflectlite.Value.Type" 0) (fun t _ _ _ => ReflectliteType.toType t) args).run Tryd.prog w = .ok v w') (k : K v w') : xE Tryd.prog (sCall 42 args) w K :=
  xE_extern (e := ReflectliteValue.methodAny (ReflectliteValue.valueError "reflectlite.Value.Type" 0) (fun t _ _ _ => ReflectliteType.toType t)) Tryd.func42 (by kernel_rfl) (by kernel_rfl) (by kernel_rfl) (by kernel_rfl) hr k
theorem xIsNil {args : Array Value} {v : Value} {w w' : World} {K : Value → World → Prop} (hr : (ReflectliteValue.method (ReflectliteValue.valueError "reflectlite.Value.IsNil" 0) ReflectliteValue.isNil args).run Tryd.prog w = .ok v w') (k : K v w') : xE Tryd.prog (sCall 43 args) w K :=
  xE_extern (e := ReflectliteValue.method (ReflectliteValue.valueError "reflectlite.Value.IsNil" 0) ReflectliteValue.isNil) Tryd.func43 (by kernel_rfl) (by kernel_rfl) (by kernel_rfl) (by kernel_rfl) hr k
theorem xElemV {args : Array Value} {v : Value} {w w' : World} {K : Value → World → Prop} (hr : (ReflectliteValue.method (ReflectliteValue.valueError "reflectlite.Value.Elem" 0) ReflectliteValue.elem args).run Tryd.prog w = .ok v w') (k : K v w') : xE Tryd.prog (sCall 51 args) w K :=
  xE_extern (e := ReflectliteValue.method (ReflectliteValue.valueError "reflectlite.Value.Elem" 0) ReflectliteValue.elem) Tryd.func51 (by kernel_rfl) (by kernel_rfl) (by kernel_rfl) (by kernel_rfl) hr k
theorem xSet {args : Array Value} {v : Value} {w w' : World} {K : Value → World → Prop} (hr : (ReflectliteValue.set args).run Tryd.prog w = .ok v w') (k : K v w') : xE Tryd.prog (sCall 52 args) w K :=
  xE_extern (e := ReflectliteValue.set) Tryd.func52 (by kernel_rfl) (by kernel_rfl) (by kernel_rfl) (by kernel_rfl) hr k
theorem xTypeOf {args : Array Value} {v : Value} {w w' : World} {K : Value → World → Prop} (hr : (ReflectliteType.typeOf args).run Tryd.prog w = .ok v w') (k : K v w') : xE Tryd.prog (sCall 45 args) w K :=
  xE_extern (e := ReflectliteType.typeOf) Tryd.func45 (by kernel_rfl) (by kernel_rfl) (by kernel_rfl) (by kernel_rfl) hr k
theorem xKind {args : Array Value} {v : Value} {w w' : World} {K : Value → World → Prop} (hr : ((ReflectliteType.abiMethod fun t => do pure (.int .u8 (← Rtype.kind t))) args).run Tryd.prog w = .ok v w') (k : K v w') : xE Tryd.prog (sCall 67 args) w K :=
  xE_extern (e := ReflectliteType.abiMethod fun t => do pure (.int .u8 (← Rtype.kind t))) Tryd.func67 (by kernel_rfl) (by kernel_rfl) (by kernel_rfl) (by kernel_rfl) hr k
theorem xElemT {args : Array Value} {v : Value} {w w' : World} {K : Value → World → Prop} (hr : (ReflectliteType.method ReflectliteType.elem args).run Tryd.prog w = .ok v w') (k : K v w') : xE Tryd.prog (sCall 80 args) w K :=
  xE_extern (e := ReflectliteType.method ReflectliteType.elem) Tryd.func80 (by kernel_rfl) (by kernel_rfl) (by kernel_rfl) (by kernel_rfl) hr k
theorem xImplements {args : Array Value} {v : Value} {w w' : World} {K : Value → World → Prop} (hr : (ReflectliteType.relation "Implements" ReflectliteType.implements_ args).run Tryd.prog w = .ok v w') (k : K v w') : xE Tryd.prog (sCall 81 args) w K :=
  xE_extern (e := ReflectliteType.relation "Implements" ReflectliteType.implements_) Tryd.func81 (by kernel_rfl) (by kernel_rfl) (by kernel_rfl) (by kernel_rfl) hr k
theorem xAssignable {args : Array Value} {v : Value} {w w' : World} {K : Value → World → Prop} (hr : (ReflectliteType.relation "AssignableTo" ReflectliteType.assignableTo args).run Tryd.prog w = .ok v w') (k : K v w') : xE Tryd.prog (sCall 78 args) w K :=
  xE_extern (e := ReflectliteType.relation "AssignableTo" ReflectliteType.assignableTo) Tryd.func78 (by kernel_rfl) (by kernel_rfl) (by kernel_rfl) (by kernel_rfl) hr k
theorem xComparable {args : Array Value} {v : Value} {w w' : World} {K : Value → World → Prop} (hr : (ReflectliteType.method (fun t => do Rtype.noPackHeld "Comparable" t; pure (.bool (← typeInfo t).comparable)) args).run Tryd.prog w = .ok v w') (k : K v w') : xE Tryd.prog (sCall 79 args) w K :=
  xE_extern (e := ReflectliteType.method (fun t => do Rtype.noPackHeld "Comparable" t; pure (.bool (← typeInfo t).comparable))) Tryd.func79 (by kernel_rfl) (by kernel_rfl) (by kernel_rfl) (by kernel_rfl) hr k

/-! ### Methods of reflectlite's rtype -/
theorem mKind (h : Value) (w : World) : (Go.method (Tryd.prog.types.size + Made.depth) 106 (.agg #[h]) "Kind").run Tryd.prog w = .ok (67, h) w := by kernel_rfl
theorem mElem (h : Value) (w : World) : (Go.method (Tryd.prog.types.size + Made.depth) 106 (.agg #[h]) "Elem").run Tryd.prog w = .ok (80, .agg #[h]) w := by kernel_rfl
theorem mImplements (h : Value) (w : World) : (Go.method (Tryd.prog.types.size + Made.depth) 106 (.agg #[h]) "Implements").run Tryd.prog w = .ok (81, .agg #[h]) w := by kernel_rfl
theorem mAssignable (h : Value) (w : World) : (Go.method (Tryd.prog.types.size + Made.depth) 106 (.agg #[h]) "AssignableTo").run Tryd.prog w = .ok (78, .agg #[h]) w := by kernel_rfl
theorem mComparable (h : Value) (w : World) : (Go.method (Tryd.prog.types.size + Made.depth) 106 (.agg #[h]) "Comparable").run Tryd.prog w = .ok (79, .agg #[h]) w := by kernel_rfl
theorem mUnwrap (a b c : Value) (w : World) : (Go.method (Tryd.prog.types.size + Made.depth) 82 (.agg #[a, b, c]) "Unwrap").run Tryd.prog w = .ok (73, .agg #[a, b, c]) w := by kernel_rfl
theorem noAsE (v : Value) (w : World) : (Instr.typeAssert (.iface 27 v) 24 110 true).run Tryd.prog w = .ok (.tuple #[.nilIface, .bool false]) w := run_typeAssert_lacksB Tryd.underlying110 (by kernel_rfl) (by kernel_rfl) v 24 w
theorem noAsF (v : Value) (w : World) : (Instr.typeAssert (.iface 82 v) 24 110 true).run Tryd.prog w = .ok (.tuple #[.nilIface, .bool false]) w := run_typeAssert_lacksB Tryd.underlying110 (by kernel_rfl) (by kernel_rfl) v 24 w
theorem noUnE (v : Value) (w : World) : (Instr.typeAssert (.iface 27 v) 24 113 true).run Tryd.prog w = .ok (.tuple #[.nilIface, .bool false]) w := run_typeAssert_lacksB Tryd.underlying113 (by kernel_rfl) (by kernel_rfl) v 24 w
theorem unF (v : Value) (w : World) : (Instr.typeAssert (.iface 82 v) 24 113 true).run Tryd.prog w = .ok (.tuple #[.iface 82 v, .bool true]) w := run_typeAssert_hasB Tryd.underlying113 (by kernel_rfl) v 24 w
theorem noUnsE (v : Value) (w : World) : (Instr.typeAssert (.iface 27 v) 24 115 true).run Tryd.prog w = .ok (.tuple #[.nilIface, .bool false]) w := run_typeAssert_lacksB Tryd.underlying115 (by kernel_rfl) (by kernel_rfl) v 24 w
theorem tofE (v : Value) (w : World) : (ReflectliteType.typeOf #[.iface 27 v]).run Tryd.prog w = .ok (rtV 27) w := by kernel_rfl
theorem tofF (v : Value) (w : World) : (ReflectliteType.typeOf #[.iface 82 v]).run Tryd.prog w = .ok (rtV 82) w := by kernel_rfl

theorem unwrap_ok {op : ByteArray} {i : Int} {e : Value} (h1 : e.oneCell' = true) {w : World} : Gives Tryd.prog 73 #[.agg #[.string op, .int .i64 i, e]] w fun u w' => u = e ∧ Kept [] w w' := by
  refine C_api_Fault_Unwrap ?_
  unfold S_api_Fault_Unwrap
  refine xE_box fun w1 hb hk hz => ?_
  have hb' : Blk w1 w.heap.size 82 [.string op, .int .i64 i, e] := hb
  simp only [xP_nil, xP_pick, xP_func, xP_not, xP_add, xP_sub, xP_mul, xP_lss, xP_leq, xP_gtr, xP_geq, xP_max2, xP_min2, xR_eql, xR_neq, Nat.zero_add, Nat.add_zero, Nat.reduceAdd, List.getD_cons_zero, List.getD_cons_succ, xIf_true, xIf_false, FA_35_0, FA_35_1, FA_66_0, FA_66_1, FA_66_2, FA_82_0, FA_82_1, FA_82_2, FA_86_0, FA_86_1, LEN_29, LEN_32, LEN_47, LEN_48, LEN_79, LEN_116]
  refine (ld1 ONE_24 (hb'.cell (o := 2))).2 ?_
  exact ⟨rfl, hk⟩
theorem erV_one (e : Er) : (erV e).oneCell' = true := by cases e <;> rfl
def Er.plain : Er → Prop
  | .no _ => True
  | .loss _ _ _ => False
  | .flt _ _ e => Er.plain e

/-! ### errors.As at an Errno's target -/
theorem vofPE (t : Addr) (w : World) : (ReflectliteValue.unpack (.iface 68 (.pointer (some t)))).run Tryd.prog w = .ok (rvV 68 ⟨w.heap.size, 0, none⟩ 150) (w.alloc (.cells #[.pointer (some t)] 68)) := by kernel_rfl
theorem vofE (n : Int) (w : World) : (ReflectliteValue.unpack (.iface 27 (.int .i64 n))).run Tryd.prog w = .ok (rvV 27 ⟨w.heap.size, 0, none⟩ 130) (w.alloc (.cells #[.int .i64 n] 27)) := by kernel_rfl
theorem typePE (a : Addr) (w : World) : (ReflectliteValue.methodAny (ReflectliteValue.valueError "reflectlite.Value.Type" 0) (fun t _ _ _ => ReflectliteType.toType t) #[rvV 68 a 150]).run Tryd.prog w = .ok (rtV 68) w := by kernel_rfl
theorem kindPE (w : World) : ((ReflectliteType.abiMethod fun t => do pure (.int .u8 (← Rtype.kind t))) #[hdl 68]).run Tryd.prog w = .ok (.int .u8 22) w := by kernel_rfl
theorem kindE (w : World) : ((ReflectliteType.abiMethod fun t => do pure (.int .u8 (← Rtype.kind t))) #[hdl 27]).run Tryd.prog w = .ok (.int .u8 2) w := by kernel_rfl
theorem partsPE (a : Addr) (w : World) : (ReflectliteValue.parts (rvV 68 a 150)).run Tryd.prog w = .ok (some (68, a, 150)) w := by kernel_rfl
theorem partsE (a : Addr) (w : World) : (ReflectliteValue.parts (rvV 27 a 130)).run Tryd.prog w = .ok (some (27, a, 130)) w := by kernel_rfl
theorem partsEA (a : Addr) (w : World) : (ReflectliteValue.parts (rvV 27 a 386)).run Tryd.prog w = .ok (some (27, a, 386)) w := by kernel_rfl
theorem elemPE (w : World) : (ReflectliteType.method ReflectliteType.elem #[.agg #[hdl 68]]).run Tryd.prog w = .ok (rtV 27) w := by kernel_rfl
theorem implE (w : World) : (ReflectliteType.relation "Implements" ReflectliteType.implements_ #[.agg #[hdl 27], rtV 24]).run Tryd.prog w = .ok (.bool true) w := by kernel_rfl
theorem asgEE (w : World) : (ReflectliteType.relation "AssignableTo" ReflectliteType.assignableTo #[.agg #[hdl 27], rtV 27]).run Tryd.prog w = .ok (.bool true) w := by kernel_rfl
theorem asgFE (w : World) : (ReflectliteType.relation "AssignableTo" ReflectliteType.assignableTo #[.agg #[hdl 82], rtV 27]).run Tryd.prog w = .ok (.bool false) w := by kernel_rfl
theorem elemOfPE (w : World) : (Rtype.elem? 68).run Tryd.prog w = .ok (some 27) w := by kernel_rfl
theorem mkEA (p : Addr) (w : World) : (ReflectliteValue.mk 27 p ReflectliteValue.flagAddr).run Tryd.prog w = .ok (rvV 27 p 386) w := by kernel_rfl
theorem dirE (w : World) : (Rtype.directlyAssignable 27 27).run Tryd.prog w = .ok true w := by kernel_rfl
theorem ONEPE : oneB Tryd.prog 68 = true := by kernel_rfl
theorem IFA : ifaceB Tryd.prog 20 = true := by kernel_rfl
theorem CPE : concB Tryd.prog 68 = true := by kernel_rfl
theorem CFAs : calleeB Tryd.prog 44 = true := by kernel_rfl

/-! ### The steps, closed -/
section
variable {K : Value → World → Prop} {w : World}
theorem sKind {X : TypeId} {n : Int} (h : ((ReflectliteType.abiMethod fun t => do pure (.int .u8 (← Rtype.kind t))) #[hdl X]).run Tryd.prog w = .ok (.int .u8 n) w) (k : K (.int .u8 n) w) : xE Tryd.prog (sInvoke "Kind" #[rtV X]) w K :=
  xE_invoke1 (t := 106) (v := .agg #[hdl X]) (r := hdl X) (f := 67) (mKind (hdl X) w) (xKind (args := #[hdl X]) h k)
theorem sElemT {X Y : TypeId} (h : (ReflectliteType.method ReflectliteType.elem #[.agg #[hdl X]]).run Tryd.prog w = .ok (rtV Y) w) (k : K (rtV Y) w) : xE Tryd.prog (sInvoke "Elem" #[rtV X]) w K :=
  xE_invoke1 (t := 106) (v := .agg #[hdl X]) (r := .agg #[hdl X]) (f := 80) (mElem (hdl X) w) (xElemT (args := #[.agg #[hdl X]]) h k)
theorem sImplements {X Y : TypeId} {b : Bool} (h : (ReflectliteType.relation "Implements" ReflectliteType.implements_ #[.agg #[hdl X], rtV Y]).run Tryd.prog w = .ok (.bool b) w) (k : K (.bool b) w) : xE Tryd.prog (sInvoke "Implements" #[rtV X, rtV Y]) w K :=
  xE_invoke2 (t := 106) (v := .agg #[hdl X]) (r := .agg #[hdl X]) (a := rtV Y) (f := 81) (mImplements (hdl X) w) (xImplements (args := #[.agg #[hdl X], rtV Y]) h k)
theorem sAssignable {X Y : TypeId} {b : Bool} (h : (ReflectliteType.relation "AssignableTo" ReflectliteType.assignableTo #[.agg #[hdl X], rtV Y]).run Tryd.prog w = .ok (.bool b) w) (k : K (.bool b) w) : xE Tryd.prog (sInvoke "AssignableTo" #[rtV X, rtV Y]) w K :=
  xE_invoke2 (t := 106) (v := .agg #[hdl X]) (r := .agg #[hdl X]) (a := rtV Y) (f := 78) (mAssignable (hdl X) w) (xAssignable (args := #[.agg #[hdl X], rtV Y]) h k)
theorem sUnwrapF {op : ByteArray} {i : Int} {e : Value} (h1 : e.oneCell' = true) (k : ∀ w', Kept [] w w' → K e w') : xE Tryd.prog (sInvoke "Unwrap" #[faultV op i e]) w K :=
  xE_invoke1 (t := 82) (v := .agg #[.string op, .int .i64 i, e]) (r := .agg #[.string op, .int .i64 i, e]) (f := 73) (mUnwrap _ _ _ w) (xE_call CF_73 (unwrap_ok h1) (fun u w' ⟨h2, h3⟩ => by subst h2; exact k w' h3))
theorem sTypeOfE {n : Int} (k : K (rtV 27) w) : xE Tryd.prog (sCall 45 #[errV n]) w K := xTypeOf (args := #[errV n]) (tofE (.int .i64 n) w) k
theorem sTypeOfF {op : ByteArray} {i : Int} {e : Value} (k : K (rtV 82) w) : xE Tryd.prog (sCall 45 #[faultV op i e]) w K := xTypeOf (args := #[faultV op i e]) (tofF (.agg #[.string op, .int .i64 i, e]) w) k
theorem sValueOfPE {t : Addr} (k : ∀ w', Blk w' w.heap.size 68 [.pointer (some t)] → Kept [] w w' → w'.heap.size = w.heap.size + 1 → K (rvV 68 ⟨w.heap.size, 0, none⟩ 150) w') : xE Tryd.prog (sCall 41 #[.iface 68 (.pointer (some t))]) w K :=
  xValueOf (args := #[.iface 68 (.pointer (some t))]) (vofPE t w) (k _ (blk_alloc w 68 [.pointer (some t)]) (kept_alloc _ _ _) (by simp))
theorem sValueOfE {n : Int} (k : ∀ w', Blk w' w.heap.size 27 [.int .i64 n] → Kept [] w w' → w'.heap.size = w.heap.size + 1 → K (rvV 27 ⟨w.heap.size, 0, none⟩ 130) w') : xE Tryd.prog (sCall 41 #[errV n]) w K :=
  xValueOf (args := #[errV n]) (vofE n w) (k _ (blk_alloc w 27 [.int .i64 n]) (kept_alloc _ _ _) (by simp))
theorem sTypePE {a : Addr} (k : K (rtV 68) w) : xE Tryd.prog (sCall 42 #[rvV 68 a 150]) w K := xType (args := #[rvV 68 a 150]) (typePE a w) k
theorem sIsNilPE {a p : Addr} (ha : w.cell? a = some (.pointer (some p))) (k : K (.bool false) w) : xE Tryd.prog (sCall 43 #[rvV 68 a 150]) w K :=
  xIsNil (args := #[rvV 68 a 150]) (rl_isNil (partsPE a w) (by decide) ONEPE ha) k
theorem sElemPE {a p : Addr} (ha : w.cell? a = some (.pointer (some p))) (k : K (rvV 27 p 386) w) : xE Tryd.prog (sCall 51 #[rvV 68 a 150]) w K :=
  xElemV (args := #[rvV 68 a 150]) (rl_elem (partsPE a w) (by decide) ONEPE ha (elemOfPE w) (mkEA p w)) k
theorem sSetE {t b : Nat} {old : Value} {n : Int} (ht : Blk w t 27 [old]) (hb : Blk w b 27 [.int .i64 n]) (k : ∀ w', Blk w' t 27 [.int .i64 n] → Kept [t] w w' → w'.heap.size = w.heap.size → K (.tuple #[]) w') :
    xE Tryd.prog (sCall 52 #[rvV 27 ⟨t, 0, none⟩ 386, rvV 27 ⟨b, 0, none⟩ 130]) w K := by
  obtain ⟨w4, hr, hb4, hk4, hz4⟩ := storeVar_run (P := Tryd.prog) (T := 27) (v := .int .i64 n) (l1 := []) (l2 := [old]) (l3 := []) SZ_27 ht rfl rfl rfl (by simp [Value.cells]; rfl)
  refine xSet (args := #[rvV 27 ⟨t, 0, none⟩ 386, rvV 27 ⟨b, 0, none⟩ 130]) (rl_set (partsEA ⟨t, 0, none⟩ w) (partsE ⟨b, 0, none⟩ w) (by decide) (load_of_s (load1 ONE_27 (hb.cell (o := 0)))) (dirE w) (store_of_s hr)) (k w4 (by simpa [Value.cells] using hb4) hk4 hz4)
end
end Go.Proofs.YtoanmeohlpdjfaaDoor
