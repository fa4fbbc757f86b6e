import Derived.Test.YtfjoepdmjopelaaDoorXkFaultP0
import Derived.Test.YtfjoepdmjopelaaDoorXB
namespace Go.Proofs.YtfjoepdmjopelaaDoor
set_option linter.unusedSimpArgs false
set_option linter.unusedVariables false
set_option maxRecDepth 100000
attribute [local irreducible] Go.X.xE
open Go Go.X Go.Extern Go.RowKit

/-! ## Errors, found by errors.As and errors.Is -/
def erV : Er → Value
  | .no k => errV k
  | .loss a b c => .iface 0 (.agg #[.int .i64 a, .int .i64 b, .int .i64 c])
  | .flt op i e => faultV op i (erV e)
theorem wrapE_ok {op : ByteArray} {at_ : Int} {e : Er} {w : World} : Gives Tryd.prog 15 #[.string op, .int .i64 at_, erV e] w fun u w' => u = erV (.flt op at_ e) ∧ w = w' := by
  cases e <;> exact wrap_ok
def hdl (T : TypeId) : Value := .pointer (some ⟨1, T, none⟩)
def rtV (T : TypeId) : Value := .iface 85 (.agg #[hdl T])
def rvV (T : TypeId) (a : Addr) (fl : Int) : Value := .agg #[hdl T, .pointer (some a), .int .u64 fl]
/-- What the start lays: package errors' errorType. -/
def Glob (w : World) : Prop := w.cell? ⟨0, 0, none⟩ = some (rtV 25)
theorem Glob.lt {w : World} (h : Glob w) : 0 < w.heap.size := by
  unfold Glob at h
  simpa using block_lt_of_cell h
theorem Glob.kept {w w' : World} {M : List Nat} (h : Glob w) (hk : Kept M w w') (hM : 0 ∉ M) : Glob w' :=
  (World.cell?_of_block (hk.block _ h.lt hM)).trans h
theorem Glob.kept0 {w w' : World} (h : Glob w) (hk : Kept [] w w') : Glob w' := h.kept hk (by simp)

/-! ### The entries -/
theorem xValueOf {args : Array Value} {v : Value} {w w' : World} {K : Value → World → Prop} (hr : (ReflectliteValue.unpack (args.getD 0 (.tuple #[]))).run Tryd.prog w = .ok v w') (k : K v w') : xE Tryd.prog (sCall 26 args) w K :=
  xE_extern (e := fun args => ReflectliteValue.unpack (args.getD 0 (.tuple #[]))) Tryd.func26 (by kernel_rfl) (by kernel_rfl) (by kernel_rfl) (by kernel_rfl) hr k
theorem xType {args : Array Value} {v : Value} {w w' : World} {K : Value → World → Prop} (hr : (ReflectliteValue.methodAny (ReflectliteValue.valueError "reflectlite.Value.Type" 0) (fun t _ _ _ => ReflectliteType.toType t) args).run Tryd.prog w = .ok v w') (k : K v w') : xE Tryd.prog (sCall 27 args) w K :=
  xE_extern (e := ReflectliteValue.methodAny (ReflectliteValue.valueError "reflectlite.Value.Type" 0) (fun t _ _ _ => ReflectliteType.toType t)) Tryd.func27 (by kernel_rfl) (by kernel_rfl) (by kernel_rfl) (by kernel_rfl) hr k
theorem xIsNil {args : Array Value} {v : Value} {w w' : World} {K : Value → World → Prop} (hr : (ReflectliteValue.method (ReflectliteValue.valueError "reflectlite.Value.IsNil" 0) ReflectliteValue.isNil args).run Tryd.prog w = .ok v w') (k : K v w') : xE Tryd.prog (sCall 28 args) w K :=
  xE_extern (e := ReflectliteValue.method (ReflectliteValue.valueError "reflectlite.Value.IsNil" 0) ReflectliteValue.isNil) Tryd.func28 (by kernel_rfl) (by kernel_rfl) (by kernel_rfl) (by kernel_rfl) hr k
theorem xElemV {args : Array Value} {v : Value} {w w' : World} {K : Value → World → Prop} (hr : (ReflectliteValue.method (ReflectliteValue.valueError "reflectlite.Value.Elem" 0) ReflectliteValue.elem args).run Tryd.prog w = .ok v w') (k : K v w') : xE Tryd.prog (sCall 32 args) w K :=
  xE_extern (e := ReflectliteValue.method (ReflectliteValue.valueError "reflectlite.Value.Elem" 0) ReflectliteValue.elem) Tryd.func32 (by kernel_rfl) (by kernel_rfl) (by kernel_rfl) (by kernel_rfl) hr k
theorem xSet {args : Array Value} {v : Value} {w w' : World} {K : Value → World → Prop} (hr : (ReflectliteValue.set args).run Tryd.prog w = .ok v w') (k : K v w') : xE Tryd.prog (sCall 33 args) w K :=
  xE_extern (e := ReflectliteValue.set) Tryd.func33 (by kernel_rfl) (by kernel_rfl) (by kernel_rfl) (by kernel_rfl) hr k
theorem xTypeOf {args : Array Value} {v : Value} {w w' : World} {K : Value → World → Prop} (hr : (ReflectliteType.typeOf args).run Tryd.prog w = .ok v w') (k : K v w') : xE Tryd.prog (sCall 30 args) w K :=
  xE_extern (e := ReflectliteType.typeOf) Tryd.func30 (by kernel_rfl) (by kernel_rfl) (by kernel_rfl) (by kernel_rfl) hr k
theorem xKind {args : Array Value} {v : Value} {w w' : World} {K : Value → World → Prop} (hr : ((ReflectliteType.abiMethod fun t => do pure (.int .u8 (← Rtype.kind t))) args).run Tryd.prog w = .ok v w') (k : K v w') : xE Tryd.prog (sCall 48 args) w K :=
  xE_extern (e := ReflectliteType.abiMethod fun t => do pure (.int .u8 (← Rtype.kind t))) Tryd.func48 (by kernel_rfl) (by kernel_rfl) (by kernel_rfl) (by kernel_rfl) hr k
theorem xElemT {args : Array Value} {v : Value} {w w' : World} {K : Value → World → Prop} (hr : (ReflectliteType.method ReflectliteType.elem args).run Tryd.prog w = .ok v w') (k : K v w') : xE Tryd.prog (sCall 60 args) w K :=
  xE_extern (e := ReflectliteType.method ReflectliteType.elem) Tryd.func60 (by kernel_rfl) (by kernel_rfl) (by kernel_rfl) (by kernel_rfl) hr k
theorem xImplements {args : Array Value} {v : Value} {w w' : World} {K : Value → World → Prop} (hr : (ReflectliteType.relation "Implements" ReflectliteType.implements_ args).run Tryd.prog w = .ok v w') (k : K v w') : xE Tryd.prog (sCall 61 args) w K :=
  xE_extern (e := ReflectliteType.relation "Implements" ReflectliteType.implements_) Tryd.func61 (by kernel_rfl) (by kernel_rfl) (by kernel_rfl) (by kernel_rfl) hr k
theorem xAssignable {args : Array Value} {v : Value} {w w' : World} {K : Value → World → Prop} (hr : (ReflectliteType.relation "AssignableTo" ReflectliteType.assignableTo args).run Tryd.prog w = .ok v w') (k : K v w') : xE Tryd.prog (sCall 58 args) w K :=
  xE_extern (e := ReflectliteType.relation "AssignableTo" ReflectliteType.assignableTo) Tryd.func58 (by kernel_rfl) (by kernel_rfl) (by kernel_rfl) (by kernel_rfl) hr k
theorem xComparable {args : Array Value} {v : Value} {w w' : World} {K : Value → World → Prop} (hr : (ReflectliteType.method (fun t => do Rtype.noPackHeld "Comparable" t; pure (.bool (← typeInfo t).comparable)) args).run Tryd.prog w = .ok v w') (k : K v w') : xE Tryd.prog (sCall 59 args) w K :=
  xE_extern (e := ReflectliteType.method (fun t => do Rtype.noPackHeld "Comparable" t; pure (.bool (← typeInfo t).comparable))) Tryd.func59 (by kernel_rfl) (by kernel_rfl) (by kernel_rfl) (by kernel_rfl) hr k

/-! ### Methods of reflectlite's rtype -/
theorem mKind (h : Value) (w : World) : (Go.method (Tryd.prog.types.size + Made.depth) 85 (.agg #[h]) "Kind").run Tryd.prog w = .ok (48, h) w := by kernel_rfl
theorem mElem (h : Value) (w : World) : (Go.method (Tryd.prog.types.size + Made.depth) 85 (.agg #[h]) "Elem").run Tryd.prog w = .ok (60, .agg #[h]) w := by kernel_rfl
theorem mImplements (h : Value) (w : World) : (Go.method (Tryd.prog.types.size + Made.depth) 85 (.agg #[h]) "Implements").run Tryd.prog w = .ok (61, .agg #[h]) w := by kernel_rfl
theorem mAssignable (h : Value) (w : World) : (Go.method (Tryd.prog.types.size + Made.depth) 85 (.agg #[h]) "AssignableTo").run Tryd.prog w = .ok (58, .agg #[h]) w := by kernel_rfl
theorem mComparable (h : Value) (w : World) : (Go.method (Tryd.prog.types.size + Made.depth) 85 (.agg #[h]) "Comparable").run Tryd.prog w = .ok (59, .agg #[h]) w := by kernel_rfl
theorem mUnwrap (a b c : Value) (w : World) : (Go.method (Tryd.prog.types.size + Made.depth) 61 (.agg #[a, b, c]) "Unwrap").run Tryd.prog w = .ok (53, .agg #[a, b, c]) w := by kernel_rfl
theorem noAsE (v : Value) (w : World) : (Instr.typeAssert (.iface 45 v) 25 89 true).run Tryd.prog w = .ok (.tuple #[.nilIface, .bool false]) w := run_typeAssert_lacksB Tryd.underlying89 (by kernel_rfl) (by kernel_rfl) v 25 w
theorem noAsF (v : Value) (w : World) : (Instr.typeAssert (.iface 61 v) 25 89 true).run Tryd.prog w = .ok (.tuple #[.nilIface, .bool false]) w := run_typeAssert_lacksB Tryd.underlying89 (by kernel_rfl) (by kernel_rfl) v 25 w
theorem noUnE (v : Value) (w : World) : (Instr.typeAssert (.iface 45 v) 25 92 true).run Tryd.prog w = .ok (.tuple #[.nilIface, .bool false]) w := run_typeAssert_lacksB Tryd.underlying92 (by kernel_rfl) (by kernel_rfl) v 25 w
theorem unF (v : Value) (w : World) : (Instr.typeAssert (.iface 61 v) 25 92 true).run Tryd.prog w = .ok (.tuple #[.iface 61 v, .bool true]) w := run_typeAssert_hasB Tryd.underlying92 (by kernel_rfl) v 25 w
theorem noUnsE (v : Value) (w : World) : (Instr.typeAssert (.iface 45 v) 25 93 true).run Tryd.prog w = .ok (.tuple #[.nilIface, .bool false]) w := run_typeAssert_lacksB Tryd.underlying93 (by kernel_rfl) (by kernel_rfl) v 25 w
theorem tofE (v : Value) (w : World) : (ReflectliteType.typeOf #[.iface 45 v]).run Tryd.prog w = .ok (rtV 45) w := by kernel_rfl
theorem tofF (v : Value) (w : World) : (ReflectliteType.typeOf #[.iface 61 v]).run Tryd.prog w = .ok (rtV 61) w := by kernel_rfl

theorem unwrap_ok {op : ByteArray} {i : Int} {e : Value} (h1 : e.oneCell' = true) {w : World} : Gives Tryd.prog 53 #[.agg #[.string op, .int .i64 i, e]] w fun u w' => u = e ∧ Kept [] w w' := by
  refine C_api_Fault_Unwrap ?_
  unfold S_api_Fault_Unwrap
  refine xE_box fun w1 hb hk hz => ?_
  have hb' : Blk w1 w.heap.size 61 [.string op, .int .i64 i, e] := hb
  simp only [xP_nil, xP_pick, xP_func, xP_not, xP_add, xP_sub, xP_mul, xP_lss, xP_leq, xP_gtr, xP_geq, xP_max2, xP_min2, xR_eql, xR_neq, Nat.zero_add, Nat.add_zero, Nat.reduceAdd, List.getD_cons_zero, List.getD_cons_succ, xIf_true, xIf_false, FA_33_0, FA_33_1, FA_33_3, FA_53_0, FA_53_1, FA_53_2, FA_53_3, FA_61_0, FA_61_1, FA_61_2, LEN_22, LEN_36, LEN_41, LEN_50, LEN_58, LEN_94]
  refine (ld1 ONE_25 (hb'.cell (o := 2))).2 ?_
  exact ⟨rfl, hk⟩
theorem erV_one (e : Er) : (erV e).oneCell' = true := by cases e <;> rfl
def Er.plain : Er → Prop
  | .no _ => True
  | .loss _ _ _ => False
  | .flt _ _ e => Er.plain e

/-! ### errors.As at an Errno's target -/
theorem vofPE (t : Addr) (w : World) : (ReflectliteValue.unpack (.iface 63 (.pointer (some t)))).run Tryd.prog w = .ok (rvV 63 ⟨w.heap.size, 0, none⟩ 150) (w.alloc (.cells #[.pointer (some t)] 63)) := by kernel_rfl
theorem vofE (n : Int) (w : World) : (ReflectliteValue.unpack (.iface 45 (.int .i64 n))).run Tryd.prog w = .ok (rvV 45 ⟨w.heap.size, 0, none⟩ 130) (w.alloc (.cells #[.int .i64 n] 45)) := by kernel_rfl
theorem typePE (a : Addr) (w : World) : (ReflectliteValue.methodAny (ReflectliteValue.valueError "reflectlite.Value.Type" 0) (fun t _ _ _ => ReflectliteType.toType t) #[rvV 63 a 150]).run Tryd.prog w = .ok (rtV 63) w := by kernel_rfl
theorem kindPE (w : World) : ((ReflectliteType.abiMethod fun t => do pure (.int .u8 (← Rtype.kind t))) #[hdl 63]).run Tryd.prog w = .ok (.int .u8 22) w := by kernel_rfl
theorem kindE (w : World) : ((ReflectliteType.abiMethod fun t => do pure (.int .u8 (← Rtype.kind t))) #[hdl 45]).run Tryd.prog w = .ok (.int .u8 2) w := by kernel_rfl
theorem partsPE (a : Addr) (w : World) : (ReflectliteValue.parts (rvV 63 a 150)).run Tryd.prog w = .ok (some (63, a, 150)) w := by kernel_rfl
theorem partsE (a : Addr) (w : World) : (ReflectliteValue.parts (rvV 45 a 130)).run Tryd.prog w = .ok (some (45, a, 130)) w := by kernel_rfl
theorem partsEA (a : Addr) (w : World) : (ReflectliteValue.parts (rvV 45 a 386)).run Tryd.prog w = .ok (some (45, a, 386)) w := by kernel_rfl
theorem elemPE (w : World) : (ReflectliteType.method ReflectliteType.elem #[.agg #[hdl 63]]).run Tryd.prog w = .ok (rtV 45) w := by kernel_rfl
theorem implE (w : World) : (ReflectliteType.relation "Implements" ReflectliteType.implements_ #[.agg #[hdl 45], rtV 25]).run Tryd.prog w = .ok (.bool true) w := by kernel_rfl
theorem asgEE (w : World) : (ReflectliteType.relation "AssignableTo" ReflectliteType.assignableTo #[.agg #[hdl 45], rtV 45]).run Tryd.prog w = .ok (.bool true) w := by kernel_rfl
theorem asgFE (w : World) : (ReflectliteType.relation "AssignableTo" ReflectliteType.assignableTo #[.agg #[hdl 61], rtV 45]).run Tryd.prog w = .ok (.bool false) w := by kernel_rfl
theorem elemOfPE (w : World) : (Rtype.elem? 63).run Tryd.prog w = .ok (some 45) w := by kernel_rfl
theorem mkEA (p : Addr) (w : World) : (ReflectliteValue.mk 45 p ReflectliteValue.flagAddr).run Tryd.prog w = .ok (rvV 45 p 386) w := by kernel_rfl
theorem dirE (w : World) : (Rtype.directlyAssignable 45 45).run Tryd.prog w = .ok true w := by kernel_rfl
theorem ONEPE : oneB Tryd.prog 63 = true := by kernel_rfl
theorem IFA : ifaceB Tryd.prog 20 = true := by kernel_rfl
theorem CPE : concB Tryd.prog 63 = true := by kernel_rfl
theorem CFAs : calleeB Tryd.prog 29 = true := by kernel_rfl

/-! ### The steps, closed -/
section
variable {K : Value → World → Prop} {w : World}
theorem sKind {X : TypeId} {n : Int} (h : ((ReflectliteType.abiMethod fun t => do pure (.int .u8 (← Rtype.kind t))) #[hdl X]).run Tryd.prog w = .ok (.int .u8 n) w) (k : K (.int .u8 n) w) : xE Tryd.prog (sInvoke "Kind" #[rtV X]) w K :=
  xE_invoke1 (t := 85) (v := .agg #[hdl X]) (r := hdl X) (f := 48) (mKind (hdl X) w) (xKind (args := #[hdl X]) h k)
theorem sElemT {X Y : TypeId} (h : (ReflectliteType.method ReflectliteType.elem #[.agg #[hdl X]]).run Tryd.prog w = .ok (rtV Y) w) (k : K (rtV Y) w) : xE Tryd.prog (sInvoke "Elem" #[rtV X]) w K :=
  xE_invoke1 (t := 85) (v := .agg #[hdl X]) (r := .agg #[hdl X]) (f := 60) (mElem (hdl X) w) (xElemT (args := #[.agg #[hdl X]]) h k)
theorem sImplements {X Y : TypeId} {b : Bool} (h : (ReflectliteType.relation "Implements" ReflectliteType.implements_ #[.agg #[hdl X], rtV Y]).run Tryd.prog w = .ok (.bool b) w) (k : K (.bool b) w) : xE Tryd.prog (sInvoke "Implements" #[rtV X, rtV Y]) w K :=
  xE_invoke2 (t := 85) (v := .agg #[hdl X]) (r := .agg #[hdl X]) (a := rtV Y) (f := 61) (mImplements (hdl X) w) (xImplements (args := #[.agg #[hdl X], rtV Y]) h k)
theorem sAssignable {X Y : TypeId} {b : Bool} (h : (ReflectliteType.relation "AssignableTo" ReflectliteType.assignableTo #[.agg #[hdl X], rtV Y]).run Tryd.prog w = .ok (.bool b) w) (k : K (.bool b) w) : xE Tryd.prog (sInvoke "AssignableTo" #[rtV X, rtV Y]) w K :=
  xE_invoke2 (t := 85) (v := .agg #[hdl X]) (r := .agg #[hdl X]) (a := rtV Y) (f := 58) (mAssignable (hdl X) w) (xAssignable (args := #[.agg #[hdl X], rtV Y]) h k)
theorem sUnwrapF {op : ByteArray} {i : Int} {e : Value} (h1 : e.oneCell' = true) (k : ∀ w', Kept [] w w' → K e w') : xE Tryd.prog (sInvoke "Unwrap" #[faultV op i e]) w K :=
  xE_invoke1 (t := 61) (v := .agg #[.string op, .int .i64 i, e]) (r := .agg #[.string op, .int .i64 i, e]) (f := 53) (mUnwrap _ _ _ w) (xE_call CF_53 (unwrap_ok h1) (fun u w' ⟨h2, h3⟩ => by subst h2; exact k w' h3))
theorem sTypeOfE {n : Int} (k : K (rtV 45) w) : xE Tryd.prog (sCall 30 #[errV n]) w K := xTypeOf (args := #[errV n]) (tofE (.int .i64 n) w) k
theorem sTypeOfF {op : ByteArray} {i : Int} {e : Value} (k : K (rtV 61) w) : xE Tryd.prog (sCall 30 #[faultV op i e]) w K := xTypeOf (args := #[faultV op i e]) (tofF (.agg #[.string op, .int .i64 i, e]) w) k
theorem sValueOfPE {t : Addr} (k : ∀ w', Blk w' w.heap.size 63 [.pointer (some t)] → Kept [] w w' → w'.heap.size = w.heap.size + 1 → K (rvV 63 ⟨w.heap.size, 0, none⟩ 150) w') : xE Tryd.prog (sCall 26 #[.iface 63 (.pointer (some t))]) w K :=
  xValueOf (args := #[.iface 63 (.pointer (some t))]) (vofPE t w) (k _ (blk_alloc w 63 [.pointer (some t)]) (kept_alloc _ _ _) (by simp))
theorem sValueOfE {n : Int} (k : ∀ w', Blk w' w.heap.size 45 [.int .i64 n] → Kept [] w w' → w'.heap.size = w.heap.size + 1 → K (rvV 45 ⟨w.heap.size, 0, none⟩ 130) w') : xE Tryd.prog (sCall 26 #[errV n]) w K :=
  xValueOf (args := #[errV n]) (vofE n w) (k _ (blk_alloc w 45 [.int .i64 n]) (kept_alloc _ _ _) (by simp))
theorem sTypePE {a : Addr} (k : K (rtV 63) w) : xE Tryd.prog (sCall 27 #[rvV 63 a 150]) w K := xType (args := #[rvV 63 a 150]) (typePE a w) k
theorem sIsNilPE {a p : Addr} (ha : w.cell? a = some (.pointer (some p))) (k : K (.bool false) w) : xE Tryd.prog (sCall 28 #[rvV 63 a 150]) w K :=
  xIsNil (args := #[rvV 63 a 150]) (rl_isNil (partsPE a w) (by decide) ONEPE ha) k
theorem sElemPE {a p : Addr} (ha : w.cell? a = some (.pointer (some p))) (k : K (rvV 45 p 386) w) : xE Tryd.prog (sCall 32 #[rvV 63 a 150]) w K :=
  xElemV (args := #[rvV 63 a 150]) (rl_elem (partsPE a w) (by decide) ONEPE ha (elemOfPE w) (mkEA p w)) k
theorem sSetE {t b : Nat} {old : Value} {n : Int} (ht : Blk w t 45 [old]) (hb : Blk w b 45 [.int .i64 n]) (k : ∀ w', Blk w' t 45 [.int .i64 n] → Kept [t] w w' → w'.heap.size = w.heap.size → K (.tuple #[]) w') :
    xE Tryd.prog (sCall 33 #[rvV 45 ⟨t, 0, none⟩ 386, rvV 45 ⟨b, 0, none⟩ 130]) w K := by
  obtain ⟨w4, hr, hb4, hk4, hz4⟩ := storeVar_run (P := Tryd.prog) (T := 45) (v := .int .i64 n) (l1 := []) (l2 := [old]) (l3 := []) SZ_45 ht rfl rfl rfl (by simp [Value.cells]; rfl)
  refine xSet (args := #[rvV 45 ⟨t, 0, none⟩ 386, rvV 45 ⟨b, 0, none⟩ 130]) (rl_set (partsEA ⟨t, 0, none⟩ w) (partsE ⟨b, 0, none⟩ w) (by decide) (load_of_s (load1 ONE_45 (hb.cell (o := 0)))) (dirE w) (store_of_s hr)) (k w4 (by simpa [Value.cells] using hb4) hk4 hz4)
end
end Go.Proofs.YtfjoepdmjopelaaDoor
