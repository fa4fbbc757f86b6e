import Derived.Test.YtpgfmpjepoedjaaDoorXfFaultP3
import Derived.Test.YtpgfmpjepoedjaaDoorXErr3
namespace Go.Proofs.YtpgfmpjepoedjaaDoor
set_option linter.unusedSimpArgs false
set_option linter.unusedVariables false
set_option maxRecDepth 100000
attribute [local irreducible] Go.X.xE
open Go Go.X Go.Extern Go.RowKit

/-! ## Errors with a Loss inside -/
theorem CLO : concB Tryd.prog 29 = true := by kernel_rfl
def lossV (a b c : Int) : Value := .iface 29 (.agg #[.int .i64 a, .int .i64 b, .int .i64 c])
def encL (x : Int × Int × Int) : List Value := [.int .i64 x.1, .int .i64 x.2.1, .int .i64 x.2.2]
def vL (x : Int × Int × Int) : Value := .agg (encL x).toArray
theorem encL_one (x : Int × Int × Int) : ∀ u ∈ encL x, u.oneCell' = true := by intro u hu; simp [encL] at hu; rcases hu with rfl | rfl | rfl <;> rfl
theorem noAsL (v : Value) (w : World) : (Instr.typeAssert (.iface 29 v) 23 82 true).run Tryd.prog w = .ok (.tuple #[.nilIface, .bool false]) w := run_typeAssert_lacksB Tryd.underlying82 (by kernel_rfl) (by kernel_rfl) v 23 w
theorem noUnL (v : Value) (w : World) : (Instr.typeAssert (.iface 29 v) 23 75 true).run Tryd.prog w = .ok (.tuple #[.nilIface, .bool false]) w := run_typeAssert_lacksB Tryd.underlying75 (by kernel_rfl) (by kernel_rfl) v 23 w
theorem noUnsL (v : Value) (w : World) : (Instr.typeAssert (.iface 29 v) 23 77 true).run Tryd.prog w = .ok (.tuple #[.nilIface, .bool false]) w := run_typeAssert_lacksB Tryd.underlying77 (by kernel_rfl) (by kernel_rfl) v 23 w
theorem noIsE (v : Value) (w : World) : (Instr.typeAssert (.iface 25 v) 23 72 true).run Tryd.prog w = .ok (.tuple #[.nilIface, .bool false]) w := run_typeAssert_lacksB Tryd.underlying72 (by kernel_rfl) (by kernel_rfl) v 23 w
theorem noIsF (v : Value) (w : World) : (Instr.typeAssert (.iface 47 v) 23 72 true).run Tryd.prog w = .ok (.tuple #[.nilIface, .bool false]) w := run_typeAssert_lacksB Tryd.underlying72 (by kernel_rfl) (by kernel_rfl) v 23 w
theorem isL (v : Value) (w : World) : (Instr.typeAssert (.iface 29 v) 23 72 true).run Tryd.prog w = .ok (.tuple #[.iface 29 v, .bool true]) w := run_typeAssert_hasB Tryd.underlying72 (by kernel_rfl) v 23 w
theorem tofL (v : Value) (w : World) : (ReflectliteType.typeOf #[.iface 29 v]).run Tryd.prog w = .ok (rtV 29) w := by kernel_rfl
theorem asgLE (w : World) : (ReflectliteType.relation "AssignableTo" ReflectliteType.assignableTo #[.agg #[hdl 29], rtV 25]).run Tryd.prog w = .ok (.bool false) w := by kernel_rfl
theorem asgLF (w : World) : (ReflectliteType.relation "AssignableTo" ReflectliteType.assignableTo #[.agg #[hdl 29], rtV 47]).run Tryd.prog w = .ok (.bool false) w := by kernel_rfl
theorem asgLL (w : World) : (ReflectliteType.relation "AssignableTo" ReflectliteType.assignableTo #[.agg #[hdl 29], rtV 29]).run Tryd.prog w = .ok (.bool true) w := by kernel_rfl
theorem asgEL (w : World) : (ReflectliteType.relation "AssignableTo" ReflectliteType.assignableTo #[.agg #[hdl 25], rtV 29]).run Tryd.prog w = .ok (.bool false) w := by kernel_rfl
theorem asgFL (w : World) : (ReflectliteType.relation "AssignableTo" ReflectliteType.assignableTo #[.agg #[hdl 47], rtV 29]).run Tryd.prog w = .ok (.bool false) w := by kernel_rfl
theorem cmpE (w : World) : (ReflectliteType.method (fun t => do Rtype.noPackHeld "Comparable" t; pure (.bool (← typeInfo t).comparable)) #[.agg #[hdl 25]]).run Tryd.prog w = .ok (.bool true) w := by kernel_rfl
theorem cmpL (w : World) : (ReflectliteType.method (fun t => do Rtype.noPackHeld "Comparable" t; pure (.bool (← typeInfo t).comparable)) #[.agg #[hdl 29]]).run Tryd.prog w = .ok (.bool true) w := by kernel_rfl
theorem mIs (a b c : Value) (w : World) : (Go.method (Tryd.prog.types.size + Made.depth) 29 (.agg #[a, b, c]) "Is").run Tryd.prog w = .ok (45, .agg #[a, b, c]) w := by kernel_rfl
/-! ### A Loss's target -/
theorem vofPL (t : Addr) (w : World) : (ReflectliteValue.unpack (.iface 51 (.pointer (some t)))).run Tryd.prog w = .ok (rvV 51 ⟨w.heap.size, 0, none⟩ 150) (w.alloc (.cells #[.pointer (some t)] 51)) := by kernel_rfl
theorem vofL (a b c : Value) (w : World) : (ReflectliteValue.unpack (.iface 29 (.agg #[a, b, c]))).run Tryd.prog w = .ok (rvV 29 ⟨w.heap.size, 0, none⟩ 153) (w.alloc (.cells #[a, b, c] 29)) := by kernel_rfl
theorem typePL (a : Addr) (w : World) : (ReflectliteValue.methodAny (ReflectliteValue.valueError "reflectlite.Value.Type" 0) (fun t _ _ _ => ReflectliteType.toType t) #[rvV 51 a 150]).run Tryd.prog w = .ok (rtV 51) w := by kernel_rfl
theorem kindPL (w : World) : ((ReflectliteType.abiMethod fun t => do pure (.int .u8 (← Rtype.kind t))) #[hdl 51]).run Tryd.prog w = .ok (.int .u8 22) w := by kernel_rfl
theorem kindL (w : World) : ((ReflectliteType.abiMethod fun t => do pure (.int .u8 (← Rtype.kind t))) #[hdl 29]).run Tryd.prog w = .ok (.int .u8 25) w := by kernel_rfl
theorem partsPL (a : Addr) (w : World) : (ReflectliteValue.parts (rvV 51 a 150)).run Tryd.prog w = .ok (some (51, a, 150)) w := by kernel_rfl
theorem partsL (a : Addr) (w : World) : (ReflectliteValue.parts (rvV 29 a 153)).run Tryd.prog w = .ok (some (29, a, 153)) w := by kernel_rfl
theorem partsLA (a : Addr) (w : World) : (ReflectliteValue.parts (rvV 29 a 409)).run Tryd.prog w = .ok (some (29, a, 409)) w := by kernel_rfl
theorem elemPL (w : World) : (ReflectliteType.method ReflectliteType.elem #[.agg #[hdl 51]]).run Tryd.prog w = .ok (rtV 29) w := by kernel_rfl
theorem implL (w : World) : (ReflectliteType.relation "Implements" ReflectliteType.implements_ #[.agg #[hdl 29], rtV 23]).run Tryd.prog w = .ok (.bool true) w := by kernel_rfl
theorem elemOfPL (w : World) : (Rtype.elem? 51).run Tryd.prog w = .ok (some 29) w := by kernel_rfl
theorem mkLA (p : Addr) (w : World) : (ReflectliteValue.mk 29 p ReflectliteValue.flagAddr).run Tryd.prog w = .ok (rvV 29 p 409) w := by kernel_rfl
theorem dirL (w : World) : (Rtype.directlyAssignable 29 29).run Tryd.prog w = .ok true w := by kernel_rfl
theorem ONEPL : oneB Tryd.prog 51 = true := by kernel_rfl
theorem CPL : concB Tryd.prog 51 = true := by kernel_rfl
section
variable {K : Value → World → Prop} {w : World}
theorem sTypeOfL {a b c : Int} (k : K (rtV 29) w) : xE Tryd.prog (sCall 18 #[lossV a b c]) w K := xTypeOf (args := #[lossV a b c]) (tofL (.agg #[.int .i64 a, .int .i64 b, .int .i64 c]) w) k
theorem sComparable {X : TypeId} (h : (ReflectliteType.method (fun t => do Rtype.noPackHeld "Comparable" t; pure (.bool (← typeInfo t).comparable)) #[.agg #[hdl X]]).run Tryd.prog w = .ok (.bool true) w) (k : K (.bool true) w) : xE Tryd.prog (sInvoke "Comparable" #[rtV X]) w K :=
  xE_invoke1 (t := 70) (v := .agg #[hdl X]) (r := .agg #[hdl X]) (f := 53) (mComparable (hdl X) w) (xComparable (args := #[.agg #[hdl X]]) h k)
theorem sValueOfPL {t : Addr} (k : ∀ w', Blk w' w.heap.size 51 [.pointer (some t)] → Kept [] w w' → w'.heap.size = w.heap.size + 1 → K (rvV 51 ⟨w.heap.size, 0, none⟩ 150) w') : xE Tryd.prog (sCall 20 #[.iface 51 (.pointer (some t))]) w K :=
  xValueOf (args := #[.iface 51 (.pointer (some t))]) (vofPL t w) (k _ (blk_alloc w 51 [.pointer (some t)]) (kept_alloc _ _ _) (by simp))
theorem sValueOfL {a b c : Int} (k : ∀ w', Blk w' w.heap.size 29 (encL (a, b, c)) → Kept [] w w' → w'.heap.size = w.heap.size + 1 → K (rvV 29 ⟨w.heap.size, 0, none⟩ 153) w') : xE Tryd.prog (sCall 20 #[lossV a b c]) w K :=
  xValueOf (args := #[lossV a b c]) (vofL (.int .i64 a) (.int .i64 b) (.int .i64 c) w) (k _ (blk_alloc w 29 (encL (a, b, c))) (kept_alloc _ _ _) (by simp))
theorem sTypePL {a : Addr} (k : K (rtV 51) w) : xE Tryd.prog (sCall 21 #[rvV 51 a 150]) w K := xType (args := #[rvV 51 a 150]) (typePL a w) k
theorem sIsNilPL {a p : Addr} (ha : w.cell? a = some (.pointer (some p))) (k : K (.bool false) w) : xE Tryd.prog (sCall 22 #[rvV 51 a 150]) w K :=
  xIsNil (args := #[rvV 51 a 150]) (rl_isNil (partsPL a w) (by decide) ONEPL ha) k
theorem sElemPL {a p : Addr} (ha : w.cell? a = some (.pointer (some p))) (k : K (rvV 29 p 409) w) : xE Tryd.prog (sCall 24 #[rvV 51 a 150]) w K :=
  xElemV (args := #[rvV 51 a 150]) (rl_elem (partsPL a w) (by decide) ONEPL ha (elemOfPL w) (mkLA p w)) k
theorem sSetL {t b : Nat} {old : List Value} {x : Int × Int × Int} (hl : old.length = 3) (ht : Blk w t 29 old) (hb : Blk w b 29 (encL x)) (k : ∀ w', Blk w' t 29 (encL x) → Kept [t] w w' → w'.heap.size = w.heap.size → K (.tuple #[]) w') :
    xE Tryd.prog (sCall 25 #[rvV 29 ⟨t, 0, none⟩ 409, rvV 29 ⟨b, 0, none⟩ 153]) w K := by
  obtain ⟨w4, hr, hb4, hk4, hz4⟩ := storeVar_run (P := Tryd.prog) (T := 29) (v := vL x) (l1 := []) (l2 := old) (l3 := []) SZ_29 (by simpa using ht) rfl hl rfl (encL_one x)
  refine xSet (args := #[rvV 29 ⟨t, 0, none⟩ 409, rvV 29 ⟨b, 0, none⟩ 153]) (rl_set (partsLA ⟨t, 0, none⟩ w) (partsL ⟨b, 0, none⟩ w) (by decide) (load_of_s (loadN (l := encL x) AGG_29 hb.at)) (dirL w) (store_of_s hr)) (k w4 (by simpa [vL, Value.cells] using hb4) hk4 hz4)
end
def Er.errno : Er → Option Int
  | .no k => some k
  | .loss _ _ _ => none
  | .flt _ _ e => Er.errno e
def Er.lost : Er → Option (Int × Int × Int)
  | .no _ => none
  | .loss a b c => some (a, b, c)
  | .flt _ _ e => Er.lost e
/-! ### errors.As at an Errno's target -/
def AsEPost (e : Er) (t : Nat) (old : Value) (w : World) (u : Value) (w' : World) : Prop := Kept [t] w w' ∧ match Er.errno e with
  | some k => u = .bool true ∧ Blk w' t 25 [.int .i64 k]
  | none => u = .bool false ∧ Blk w' t 25 [old]
theorem asE1q {e : Er} {t : Nat} {a : Addr} {old : Value} {w : World} (ht : Blk w t 25 [old]) (ha : w.cell? a = some (.pointer (some ⟨t, 0, none⟩))) (hal : a.block < w.heap.size) (hne : a.block ≠ t) :
    Gives Tryd.prog 23 #[erV e, .iface 52 (.pointer (some ⟨t, 0, none⟩)), rvV 52 a 150, rtV 25] w fun u w' => AsEPost e t old w u w' := by
  refine C_errors_as ?_
  unfold S_errors_as
  refine xE_box fun w1 hb1 hk1 hz1 => ?_
  have hb1' : Blk w1 w.heap.size 62 [hdl 52, .pointer (some a), .int .u64 150] := hb1
  refine xLoop_of (fun vs w' => ∃ e' : Er, vs = [erV e'] ∧ Er.errno e' = Er.errno e ∧ Kept [] w1 w') (fun vs _ => depthM vs) ⟨e, rfl, rfl, Kept.refl _ _⟩ ?_
  rintro _ _ w2 ⟨e', rfl, hke, hk2⟩
  have hk02 : Kept [] w w2 := hk1.then hk2 (by simp)
  simp only [xP_nil, xP_pick, xP_func, xP_not, xP_add, xP_sub, xP_mul, xP_lss, xP_leq, xP_gtr, xP_geq, xP_max2, xP_min2, xR_eql, xR_neq, Nat.zero_add, Nat.add_zero, Nat.reduceAdd, List.getD_cons_zero, List.getD_cons_succ, xIf_true, xIf_false, FA_40_0, FA_40_1, FA_47_0, FA_47_1, FA_47_2, LEN_34, LEN_38, LEN_48, LEN_53, LEN_78]
  cases e' with
  | loss a b c =>
    refine sTypeOfL ?_
    refine sAssignable (asgLE w2) ?_
    simp only [xP_nil, xP_pick, xP_func, xP_not, xP_add, xP_sub, xP_mul, xP_lss, xP_leq, xP_gtr, xP_geq, xP_max2, xP_min2, xR_eql, xR_neq, Nat.zero_add, Nat.add_zero, Nat.reduceAdd, List.getD_cons_zero, List.getD_cons_succ, xIf_true, xIf_false, FA_40_0, FA_40_1, FA_47_0, FA_47_1, FA_47_2, LEN_34, LEN_38, LEN_48, LEN_53, LEN_78]
    refine (xP_assert (noAsL _)).2 ?_
    simp only [xP_ex0, xP_ex1]
    refine xJoin_one ?_
    simp only [xP_nil, xP_pick, xP_func, xP_not, xP_add, xP_sub, xP_mul, xP_lss, xP_leq, xP_gtr, xP_geq, xP_max2, xP_min2, xR_eql, xR_neq, Nat.zero_add, Nat.add_zero, Nat.reduceAdd, List.getD_cons_zero, List.getD_cons_succ, xIf_true, xIf_false, FA_40_0, FA_40_1, FA_47_0, FA_47_1, FA_47_2, LEN_34, LEN_38, LEN_48, LEN_53, LEN_78]
    intro _
    refine (xP_assert (noUnL _)).2 ?_
    simp only [xP_ex0, xP_ex1, xP_nil, xP_pick, xP_func, xP_not, xP_add, xP_sub, xP_mul, xP_lss, xP_leq, xP_gtr, xP_geq, xP_max2, xP_min2, xR_eql, xR_neq, Nat.zero_add, Nat.add_zero, Nat.reduceAdd, List.getD_cons_zero, List.getD_cons_succ, xIf_true, xIf_false, FA_40_0, FA_40_1, FA_47_0, FA_47_1, FA_47_2, LEN_34, LEN_38, LEN_48, LEN_53, LEN_78]
    refine (xP_assert (noUnsL _)).2 ?_
    simp only [xP_ex0, xP_ex1, xP_nil, xP_pick, xP_func, xP_not, xP_add, xP_sub, xP_mul, xP_lss, xP_leq, xP_gtr, xP_geq, xP_max2, xP_min2, xR_eql, xR_neq, Nat.zero_add, Nat.add_zero, Nat.reduceAdd, List.getD_cons_zero, List.getD_cons_succ, xIf_true, xIf_false, FA_40_0, FA_40_1, FA_47_0, FA_47_1, FA_47_2, LEN_34, LEN_38, LEN_48, LEN_53, LEN_78]
    refine ⟨hk02.mono (by simp), ?_⟩
    rw [← hke]
    exact ⟨rfl, ht.kept hk02 (by simp)⟩
  | no k =>
    refine sTypeOfE ?_
    refine sAssignable (asgEE w2) ?_
    simp only [xP_nil, xP_pick, xP_func, xP_not, xP_add, xP_sub, xP_mul, xP_lss, xP_leq, xP_gtr, xP_geq, xP_max2, xP_min2, xR_eql, xR_neq, Nat.zero_add, Nat.add_zero, Nat.reduceAdd, List.getD_cons_zero, List.getD_cons_succ, xIf_true, xIf_false, FA_40_0, FA_40_1, FA_47_0, FA_47_1, FA_47_2, LEN_34, LEN_38, LEN_48, LEN_53, LEN_78]
    refine (ldN (l := [hdl 52, .pointer (some a), .int .u64 150]) AGG_62 (hb1'.kept hk2 (by simp)).at).2 ?_
    have ha2 : w2.cell? a = some (.pointer (some ⟨t, 0, none⟩)) := (World.cell?_of_block (hk02.block _ hal (by simp))).trans ha
    refine sElemPE ha2 ?_
    refine sValueOfE fun w3 hb3 hk3 hz3 => ?_
    refine sSetE ((ht.kept hk02 (by simp)).kept hk3 (by simp)) hb3 fun w4 hb4 hk4 hz4 => ?_
    refine ⟨((hk02.then hk3 (by simp)).mono (by simp)).then hk4 (by simp), ?_⟩
    rw [← hke]
    exact ⟨rfl, hb4⟩
  | flt op i e2 =>
    refine sTypeOfF ?_
    refine sAssignable (asgFE w2) ?_
    simp only [xP_nil, xP_pick, xP_func, xP_not, xP_add, xP_sub, xP_mul, xP_lss, xP_leq, xP_gtr, xP_geq, xP_max2, xP_min2, xR_eql, xR_neq, Nat.zero_add, Nat.add_zero, Nat.reduceAdd, List.getD_cons_zero, List.getD_cons_succ, xIf_true, xIf_false, FA_40_0, FA_40_1, FA_47_0, FA_47_1, FA_47_2, LEN_34, LEN_38, LEN_48, LEN_53, LEN_78]
    refine (xP_assert (noAsF _)).2 ?_
    simp only [xP_ex0, xP_ex1]
    refine xJoin_one ?_
    simp only [xP_nil, xP_pick, xP_func, xP_not, xP_add, xP_sub, xP_mul, xP_lss, xP_leq, xP_gtr, xP_geq, xP_max2, xP_min2, xR_eql, xR_neq, Nat.zero_add, Nat.add_zero, Nat.reduceAdd, List.getD_cons_zero, List.getD_cons_succ, xIf_true, xIf_false, FA_40_0, FA_40_1, FA_47_0, FA_47_1, FA_47_2, LEN_34, LEN_38, LEN_48, LEN_53, LEN_78]
    intro _
    refine (xP_assert (unF _)).2 ?_
    simp only [xP_ex0, xP_ex1, xP_nil, xP_pick, xP_func, xP_not, xP_add, xP_sub, xP_mul, xP_lss, xP_leq, xP_gtr, xP_geq, xP_max2, xP_min2, xR_eql, xR_neq, Nat.zero_add, Nat.add_zero, Nat.reduceAdd, List.getD_cons_zero, List.getD_cons_succ, xIf_true, xIf_false, FA_40_0, FA_40_1, FA_47_0, FA_47_1, FA_47_2, LEN_34, LEN_38, LEN_48, LEN_53, LEN_78]
    refine sUnwrapF (erV_one e2) fun w3 hk3 => ?_
    refine erV_eql.2 ?_
    simp only [xP_nil, xP_pick, xP_func, xP_not, xP_add, xP_sub, xP_mul, xP_lss, xP_leq, xP_gtr, xP_geq, xP_max2, xP_min2, xR_eql, xR_neq, Nat.zero_add, Nat.add_zero, Nat.reduceAdd, List.getD_cons_zero, List.getD_cons_succ, xIf_true, xIf_false, FA_40_0, FA_40_1, FA_47_0, FA_47_1, FA_47_2, LEN_34, LEN_38, LEN_48, LEN_53, LEN_78]
    exact ⟨⟨e2, rfl, hke, hk2.then hk3 (by simp)⟩, depth_lt op i e2⟩
theorem asEq {e : Er} {t : Nat} {old : Value} {w : World} (hg : Glob w) (ht : Blk w t 25 [old]) :
    Gives Tryd.prog 17 #[erV e, .iface 52 (.pointer (some ⟨t, 0, none⟩))] w fun u w' => AsEPost e t old w u w' := by
  refine C_errors_As ?_
  unfold S_errors_As
  refine erV_eql.2 ?_
  try simp only [xP_nil, xP_pick, xP_func, xP_not, xP_add, xP_sub, xP_mul, xP_lss, xP_leq, xP_gtr, xP_geq, xP_max2, xP_min2, xR_eql, xR_neq, Nat.zero_add, Nat.add_zero, Nat.reduceAdd, List.getD_cons_zero, List.getD_cons_succ, xIf_true, xIf_false, FA_40_0, FA_40_1, FA_47_0, FA_47_1, FA_47_2, LEN_34, LEN_38, LEN_48, LEN_53, LEN_78]
  refine xJoin_one ?_
  refine (xR_eqlI IFA).2 ?_
  try simp only [xP_nil, xP_pick, xP_func, xP_not, xP_add, xP_sub, xP_mul, xP_lss, xP_leq, xP_gtr, xP_geq, xP_max2, xP_min2, xR_eql, xR_neq, Nat.zero_add, Nat.add_zero, Nat.reduceAdd, List.getD_cons_zero, List.getD_cons_succ, xIf_true, xIf_false, FA_40_0, FA_40_1, FA_47_0, FA_47_1, FA_47_2, LEN_34, LEN_38, LEN_48, LEN_53, LEN_78]
  intro _
  refine sValueOfPE fun w1 hba hka hza => ?_
  refine xE_alloc Z_62 fun w2 hb2 hk2 hz2 => ?_
  refine xE_storeN (l1 := []) (l2 := [.pointer none, .pointer none, .int .u64 0]) (l3 := []) SZ_62 hb2 rfl rfl rfl (by intro u hu; simp [rvV, hdl, Value.cells] at hu; rcases hu with rfl | rfl | rfl <;> rfl) fun w3 hb3 hk3 hz3 => ?_
  have hb3' : Blk w3 w1.heap.size 62 [hdl 52, .pointer (some ⟨w.heap.size, 0, none⟩), .int .u64 150] := by simpa [Value.cells, rvV] using hb3
  have hk13 : Kept [] w1 w3 := hk2.trans hk3 (by simp) (by simp)
  have hk03 : Kept [] w w3 := hka.then hk13 (by simp)
  refine (ldN (l := [hdl 52, .pointer (some ⟨w.heap.size, 0, none⟩), .int .u64 150]) AGG_62 hb3'.at).2 ?_
  have hcell : w3.cell? ⟨w.heap.size, 0, none⟩ = some (.pointer (some ⟨t, 0, none⟩)) := (hba.kept hk13 (by simp)).cell (o := 0)
  refine sTypePE ?_
  refine xJoin_one (xJoin_one ?_)
  refine sKind (kindPE w3) ?_
  simp only [xP_nil, xP_pick, xP_func, xP_not, xP_add, xP_sub, xP_mul, xP_lss, xP_leq, xP_gtr, xP_geq, xP_max2, xP_min2, xR_eql, xR_neq, Nat.zero_add, Nat.add_zero, Nat.reduceAdd, List.getD_cons_zero, List.getD_cons_succ, xIf_true, xIf_false, FA_40_0, FA_40_1, FA_47_0, FA_47_1, FA_47_2, LEN_34, LEN_38, LEN_48, LEN_53, LEN_78, show decide ((22 : Int) ≠ 22) = false from rfl]
  refine (ldN (l := [hdl 52, .pointer (some ⟨w.heap.size, 0, none⟩), .int .u64 150]) AGG_62 hb3'.at).2 ?_
  refine sIsNilPE hcell ?_
  intro _
  try simp only [xP_nil, xP_pick, xP_func, xP_not, xP_add, xP_sub, xP_mul, xP_lss, xP_leq, xP_gtr, xP_geq, xP_max2, xP_min2, xR_eql, xR_neq, Nat.zero_add, Nat.add_zero, Nat.reduceAdd, List.getD_cons_zero, List.getD_cons_succ, xIf_true, xIf_false, FA_40_0, FA_40_1, FA_47_0, FA_47_1, FA_47_2, LEN_34, LEN_38, LEN_48, LEN_53, LEN_78]
  intro _
  refine sElemT (elemPE w3) ?_
  refine xJoin_one (xJoin_one ?_)
  refine sKind (kindE w3) ?_
  simp only [xP_nil, xP_pick, xP_func, xP_not, xP_add, xP_sub, xP_mul, xP_lss, xP_leq, xP_gtr, xP_geq, xP_max2, xP_min2, xR_eql, xR_neq, Nat.zero_add, Nat.add_zero, Nat.reduceAdd, List.getD_cons_zero, List.getD_cons_succ, xIf_true, xIf_false, FA_40_0, FA_40_1, FA_47_0, FA_47_1, FA_47_2, LEN_34, LEN_38, LEN_48, LEN_53, LEN_78, show decide ((2 : Int) ≠ 20) = true from rfl]
  refine (ld1 ONE_55 (v := rtV 23) (hg.kept0 hk03)).2 ?_
  refine sImplements (implE w3) ?_
  simp only [xP_nil, xP_pick, xP_func, xP_not, xP_add, xP_sub, xP_mul, xP_lss, xP_leq, xP_gtr, xP_geq, xP_max2, xP_min2, xR_eql, xR_neq, Nat.zero_add, Nat.add_zero, Nat.reduceAdd, List.getD_cons_zero, List.getD_cons_succ, xIf_true, xIf_false, FA_40_0, FA_40_1, FA_47_0, FA_47_1, FA_47_2, LEN_34, LEN_38, LEN_48, LEN_53, LEN_78, Bool.not_true]
  intro _
  try simp only [xP_nil, xP_pick, xP_func, xP_not, xP_add, xP_sub, xP_mul, xP_lss, xP_leq, xP_gtr, xP_geq, xP_max2, xP_min2, xR_eql, xR_neq, Nat.zero_add, Nat.add_zero, Nat.reduceAdd, List.getD_cons_zero, List.getD_cons_succ, xIf_true, xIf_false, FA_40_0, FA_40_1, FA_47_0, FA_47_1, FA_47_2, LEN_34, LEN_38, LEN_48, LEN_53, LEN_78]
  intro _
  refine (ldN (l := [hdl 52, .pointer (some ⟨w.heap.size, 0, none⟩), .int .u64 150]) AGG_62 hb3'.at).2 ?_
  have hlt := ht.lt
  refine xE_call CF_23 (asE1q (e := e) (ht.kept hk03 (by simp)) hcell (by have := hk13.size; show w.heap.size < _; omega) (by show w.heap.size ≠ t; omega)) ?_
  rintro u w4 ⟨hk4, hm⟩
  exact ⟨(hk03.mono (by simp)).then hk4 (by simp), hm⟩
/-! ### errors.As at a Fault's target -/
theorem asF1q {e : Er} {t : Nat} {a : Addr} {old : List Value} {w : World} (hl : old.length = 3) (ht : Blk w t 47 old) (ha : w.cell? a = some (.pointer (some ⟨t, 0, none⟩))) (hal : a.block < w.heap.size) (hne : a.block ≠ t) :
    Gives Tryd.prog 23 #[erV e, .iface 58 (.pointer (some ⟨t, 0, none⟩)), rvV 58 a 150, rtV 47] w fun u w' => AsFPost e t old w u w' := by
  cases e with
  | no k => exact asF1_ok (e := .no k) trivial hl ht ha hal hne
  | flt op i e2 =>
    refine C_errors_as ?_
    unfold S_errors_as
    refine xE_box fun w1 hb1 hk1 hz1 => ?_
    have hb1' : Blk w1 w.heap.size 62 [hdl 58, .pointer (some a), .int .u64 150] := hb1
    refine xLoop_of (fun vs w' => vs = [erV (.flt op i e2)] ∧ w1 = w') (fun vs _ => 0) ⟨rfl, rfl⟩ ?_
    rintro _ _ _ ⟨rfl, rfl⟩
    simp only [xP_nil, xP_pick, xP_func, xP_not, xP_add, xP_sub, xP_mul, xP_lss, xP_leq, xP_gtr, xP_geq, xP_max2, xP_min2, xR_eql, xR_neq, Nat.zero_add, Nat.add_zero, Nat.reduceAdd, List.getD_cons_zero, List.getD_cons_succ, xIf_true, xIf_false, FA_40_0, FA_40_1, FA_47_0, FA_47_1, FA_47_2, LEN_34, LEN_38, LEN_48, LEN_53, LEN_78]
    refine sTypeOfF ?_
    refine sAssignable (asgFF w1) ?_
    simp only [xP_nil, xP_pick, xP_func, xP_not, xP_add, xP_sub, xP_mul, xP_lss, xP_leq, xP_gtr, xP_geq, xP_max2, xP_min2, xR_eql, xR_neq, Nat.zero_add, Nat.add_zero, Nat.reduceAdd, List.getD_cons_zero, List.getD_cons_succ, xIf_true, xIf_false, FA_40_0, FA_40_1, FA_47_0, FA_47_1, FA_47_2, LEN_34, LEN_38, LEN_48, LEN_53, LEN_78]
    refine (ldN (l := [hdl 58, .pointer (some a), .int .u64 150]) AGG_62 hb1'.at).2 ?_
    have ha2 : w1.cell? a = some (.pointer (some ⟨t, 0, none⟩)) := (World.cell?_of_block (hk1.block _ hal (by simp))).trans ha
    refine sElemPF ha2 ?_
    refine sValueOfF (x := (op, i, e2)) fun w3 hb3 hk3 hz3 => ?_
    refine sSetF hl ((ht.kept hk1 (by simp)).kept hk3 (by simp)) hb3 fun w4 hb4 hk4 hz4 => ?_
    exact ⟨((hk1.then hk3 (by simp)).mono (by simp)).then hk4 (by simp), rfl, hb4⟩
  | loss x y z =>
    refine C_errors_as ?_
    unfold S_errors_as
    refine xE_box fun w1 hb1 hk1 hz1 => ?_
    refine xLoop_of (fun vs w' => vs = [erV (.loss x y z)] ∧ w1 = w') (fun vs _ => 0) ⟨rfl, rfl⟩ ?_
    rintro _ _ _ ⟨rfl, rfl⟩
    simp only [xP_nil, xP_pick, xP_func, xP_not, xP_add, xP_sub, xP_mul, xP_lss, xP_leq, xP_gtr, xP_geq, xP_max2, xP_min2, xR_eql, xR_neq, Nat.zero_add, Nat.add_zero, Nat.reduceAdd, List.getD_cons_zero, List.getD_cons_succ, xIf_true, xIf_false, FA_40_0, FA_40_1, FA_47_0, FA_47_1, FA_47_2, LEN_34, LEN_38, LEN_48, LEN_53, LEN_78]
    refine sTypeOfL ?_
    refine sAssignable (asgLF w1) ?_
    simp only [xP_nil, xP_pick, xP_func, xP_not, xP_add, xP_sub, xP_mul, xP_lss, xP_leq, xP_gtr, xP_geq, xP_max2, xP_min2, xR_eql, xR_neq, Nat.zero_add, Nat.add_zero, Nat.reduceAdd, List.getD_cons_zero, List.getD_cons_succ, xIf_true, xIf_false, FA_40_0, FA_40_1, FA_47_0, FA_47_1, FA_47_2, LEN_34, LEN_38, LEN_48, LEN_53, LEN_78]
    refine (xP_assert (noAsL _)).2 ?_
    simp only [xP_ex0, xP_ex1]
    refine xJoin_one ?_
    simp only [xP_nil, xP_pick, xP_func, xP_not, xP_add, xP_sub, xP_mul, xP_lss, xP_leq, xP_gtr, xP_geq, xP_max2, xP_min2, xR_eql, xR_neq, Nat.zero_add, Nat.add_zero, Nat.reduceAdd, List.getD_cons_zero, List.getD_cons_succ, xIf_true, xIf_false, FA_40_0, FA_40_1, FA_47_0, FA_47_1, FA_47_2, LEN_34, LEN_38, LEN_48, LEN_53, LEN_78]
    intro _
    refine (xP_assert (noUnL _)).2 ?_
    simp only [xP_ex0, xP_ex1, xP_nil, xP_pick, xP_func, xP_not, xP_add, xP_sub, xP_mul, xP_lss, xP_leq, xP_gtr, xP_geq, xP_max2, xP_min2, xR_eql, xR_neq, Nat.zero_add, Nat.add_zero, Nat.reduceAdd, List.getD_cons_zero, List.getD_cons_succ, xIf_true, xIf_false, FA_40_0, FA_40_1, FA_47_0, FA_47_1, FA_47_2, LEN_34, LEN_38, LEN_48, LEN_53, LEN_78]
    refine (xP_assert (noUnsL _)).2 ?_
    simp only [xP_ex0, xP_ex1, xP_nil, xP_pick, xP_func, xP_not, xP_add, xP_sub, xP_mul, xP_lss, xP_leq, xP_gtr, xP_geq, xP_max2, xP_min2, xR_eql, xR_neq, Nat.zero_add, Nat.add_zero, Nat.reduceAdd, List.getD_cons_zero, List.getD_cons_succ, xIf_true, xIf_false, FA_40_0, FA_40_1, FA_47_0, FA_47_1, FA_47_2, LEN_34, LEN_38, LEN_48, LEN_53, LEN_78]
    exact ⟨hk1.mono (by simp), rfl, ht.kept hk1 (by simp)⟩
theorem asFq {e : Er} {t : Nat} {old : List Value} {w : World} (hg : Glob w) (hl : old.length = 3) (ht : Blk w t 47 old) :
    Gives Tryd.prog 17 #[erV e, .iface 58 (.pointer (some ⟨t, 0, none⟩))] w fun u w' => AsFPost e t old w u w' := by
  refine C_errors_As ?_
  unfold S_errors_As
  refine erV_eql.2 ?_
  try simp only [xP_nil, xP_pick, xP_func, xP_not, xP_add, xP_sub, xP_mul, xP_lss, xP_leq, xP_gtr, xP_geq, xP_max2, xP_min2, xR_eql, xR_neq, Nat.zero_add, Nat.add_zero, Nat.reduceAdd, List.getD_cons_zero, List.getD_cons_succ, xIf_true, xIf_false, FA_40_0, FA_40_1, FA_47_0, FA_47_1, FA_47_2, LEN_34, LEN_38, LEN_48, LEN_53, LEN_78]
  refine xJoin_one ?_
  refine (xR_eqlI IFA).2 ?_
  try simp only [xP_nil, xP_pick, xP_func, xP_not, xP_add, xP_sub, xP_mul, xP_lss, xP_leq, xP_gtr, xP_geq, xP_max2, xP_min2, xR_eql, xR_neq, Nat.zero_add, Nat.add_zero, Nat.reduceAdd, List.getD_cons_zero, List.getD_cons_succ, xIf_true, xIf_false, FA_40_0, FA_40_1, FA_47_0, FA_47_1, FA_47_2, LEN_34, LEN_38, LEN_48, LEN_53, LEN_78]
  intro _
  refine sValueOfPF fun w1 hba hka hza => ?_
  refine xE_alloc Z_62 fun w2 hb2 hk2 hz2 => ?_
  refine xE_storeN (l1 := []) (l2 := [.pointer none, .pointer none, .int .u64 0]) (l3 := []) SZ_62 hb2 rfl rfl rfl (by intro u hu; simp [rvV, hdl, Value.cells] at hu; rcases hu with rfl | rfl | rfl <;> rfl) fun w3 hb3 hk3 hz3 => ?_
  have hb3' : Blk w3 w1.heap.size 62 [hdl 58, .pointer (some ⟨w.heap.size, 0, none⟩), .int .u64 150] := by simpa [Value.cells, rvV] using hb3
  have hk13 : Kept [] w1 w3 := hk2.trans hk3 (by simp) (by simp)
  have hk03 : Kept [] w w3 := hka.then hk13 (by simp)
  refine (ldN (l := [hdl 58, .pointer (some ⟨w.heap.size, 0, none⟩), .int .u64 150]) AGG_62 hb3'.at).2 ?_
  have hcell : w3.cell? ⟨w.heap.size, 0, none⟩ = some (.pointer (some ⟨t, 0, none⟩)) := (hba.kept hk13 (by simp)).cell (o := 0)
  refine sTypePF ?_
  refine xJoin_one (xJoin_one ?_)
  refine sKind (kindPF w3) ?_
  simp only [xP_nil, xP_pick, xP_func, xP_not, xP_add, xP_sub, xP_mul, xP_lss, xP_leq, xP_gtr, xP_geq, xP_max2, xP_min2, xR_eql, xR_neq, Nat.zero_add, Nat.add_zero, Nat.reduceAdd, List.getD_cons_zero, List.getD_cons_succ, xIf_true, xIf_false, FA_40_0, FA_40_1, FA_47_0, FA_47_1, FA_47_2, LEN_34, LEN_38, LEN_48, LEN_53, LEN_78, show decide ((22 : Int) ≠ 22) = false from rfl]
  refine (ldN (l := [hdl 58, .pointer (some ⟨w.heap.size, 0, none⟩), .int .u64 150]) AGG_62 hb3'.at).2 ?_
  refine sIsNilPF hcell ?_
  intro _
  try simp only [xP_nil, xP_pick, xP_func, xP_not, xP_add, xP_sub, xP_mul, xP_lss, xP_leq, xP_gtr, xP_geq, xP_max2, xP_min2, xR_eql, xR_neq, Nat.zero_add, Nat.add_zero, Nat.reduceAdd, List.getD_cons_zero, List.getD_cons_succ, xIf_true, xIf_false, FA_40_0, FA_40_1, FA_47_0, FA_47_1, FA_47_2, LEN_34, LEN_38, LEN_48, LEN_53, LEN_78]
  intro _
  refine sElemT (elemPF w3) ?_
  refine xJoin_one (xJoin_one ?_)
  refine sKind (kindF w3) ?_
  simp only [xP_nil, xP_pick, xP_func, xP_not, xP_add, xP_sub, xP_mul, xP_lss, xP_leq, xP_gtr, xP_geq, xP_max2, xP_min2, xR_eql, xR_neq, Nat.zero_add, Nat.add_zero, Nat.reduceAdd, List.getD_cons_zero, List.getD_cons_succ, xIf_true, xIf_false, FA_40_0, FA_40_1, FA_47_0, FA_47_1, FA_47_2, LEN_34, LEN_38, LEN_48, LEN_53, LEN_78, show decide ((25 : Int) ≠ 20) = true from rfl]
  refine (ld1 ONE_55 (v := rtV 23) (hg.kept0 hk03)).2 ?_
  refine sImplements (implF w3) ?_
  simp only [xP_nil, xP_pick, xP_func, xP_not, xP_add, xP_sub, xP_mul, xP_lss, xP_leq, xP_gtr, xP_geq, xP_max2, xP_min2, xR_eql, xR_neq, Nat.zero_add, Nat.add_zero, Nat.reduceAdd, List.getD_cons_zero, List.getD_cons_succ, xIf_true, xIf_false, FA_40_0, FA_40_1, FA_47_0, FA_47_1, FA_47_2, LEN_34, LEN_38, LEN_48, LEN_53, LEN_78, Bool.not_true]
  intro _
  try simp only [xP_nil, xP_pick, xP_func, xP_not, xP_add, xP_sub, xP_mul, xP_lss, xP_leq, xP_gtr, xP_geq, xP_max2, xP_min2, xR_eql, xR_neq, Nat.zero_add, Nat.add_zero, Nat.reduceAdd, List.getD_cons_zero, List.getD_cons_succ, xIf_true, xIf_false, FA_40_0, FA_40_1, FA_47_0, FA_47_1, FA_47_2, LEN_34, LEN_38, LEN_48, LEN_53, LEN_78]
  intro _
  refine (ldN (l := [hdl 58, .pointer (some ⟨w.heap.size, 0, none⟩), .int .u64 150]) AGG_62 hb3'.at).2 ?_
  have hlt := ht.lt
  refine xE_call CF_23 (asF1q (e := e) hl (ht.kept hk03 (by simp)) hcell (by have := hk13.size; show w.heap.size < _; omega) (by show w.heap.size ≠ t; omega)) ?_
  rintro u w4 ⟨hk4, hm⟩
  exact ⟨(hk03.mono (by simp)).then hk4 (by simp), hm⟩
/-! ### errors.As at a Loss's target -/
def AsLPost (e : Er) (t : Nat) (old : List Value) (w : World) (u : Value) (w' : World) : Prop := Kept [t] w w' ∧ match Er.lost e with
  | some x => u = .bool true ∧ Blk w' t 29 (encL x)
  | none => u = .bool false ∧ Blk w' t 29 old
theorem asL1q {e : Er} {t : Nat} {a : Addr} {old : List Value} {w : World} (hl : old.length = 3) (ht : Blk w t 29 old) (ha : w.cell? a = some (.pointer (some ⟨t, 0, none⟩))) (hal : a.block < w.heap.size) (hne : a.block ≠ t) :
    Gives Tryd.prog 23 #[erV e, .iface 51 (.pointer (some ⟨t, 0, none⟩)), rvV 51 a 150, rtV 29] w fun u w' => AsLPost e t old w u w' := by
  refine C_errors_as ?_
  unfold S_errors_as
  refine xE_box fun w1 hb1 hk1 hz1 => ?_
  have hb1' : Blk w1 w.heap.size 62 [hdl 51, .pointer (some a), .int .u64 150] := hb1
  refine xLoop_of (fun vs w' => ∃ e' : Er, vs = [erV e'] ∧ Er.lost e' = Er.lost e ∧ Kept [] w1 w') (fun vs _ => depthM vs) ⟨e, rfl, rfl, Kept.refl _ _⟩ ?_
  rintro _ _ w2 ⟨e', rfl, hke, hk2⟩
  have hk02 : Kept [] w w2 := hk1.then hk2 (by simp)
  simp only [xP_nil, xP_pick, xP_func, xP_not, xP_add, xP_sub, xP_mul, xP_lss, xP_leq, xP_gtr, xP_geq, xP_max2, xP_min2, xR_eql, xR_neq, Nat.zero_add, Nat.add_zero, Nat.reduceAdd, List.getD_cons_zero, List.getD_cons_succ, xIf_true, xIf_false, FA_40_0, FA_40_1, FA_47_0, FA_47_1, FA_47_2, LEN_34, LEN_38, LEN_48, LEN_53, LEN_78]
  cases e' with
  | no k =>
    refine sTypeOfE ?_
    refine sAssignable (asgEL w2) ?_
    simp only [xP_nil, xP_pick, xP_func, xP_not, xP_add, xP_sub, xP_mul, xP_lss, xP_leq, xP_gtr, xP_geq, xP_max2, xP_min2, xR_eql, xR_neq, Nat.zero_add, Nat.add_zero, Nat.reduceAdd, List.getD_cons_zero, List.getD_cons_succ, xIf_true, xIf_false, FA_40_0, FA_40_1, FA_47_0, FA_47_1, FA_47_2, LEN_34, LEN_38, LEN_48, LEN_53, LEN_78]
    refine (xP_assert (noAsE _)).2 ?_
    simp only [xP_ex0, xP_ex1]
    refine xJoin_one ?_
    simp only [xP_nil, xP_pick, xP_func, xP_not, xP_add, xP_sub, xP_mul, xP_lss, xP_leq, xP_gtr, xP_geq, xP_max2, xP_min2, xR_eql, xR_neq, Nat.zero_add, Nat.add_zero, Nat.reduceAdd, List.getD_cons_zero, List.getD_cons_succ, xIf_true, xIf_false, FA_40_0, FA_40_1, FA_47_0, FA_47_1, FA_47_2, LEN_34, LEN_38, LEN_48, LEN_53, LEN_78]
    intro _
    refine (xP_assert (noUnE _)).2 ?_
    simp only [xP_ex0, xP_ex1, xP_nil, xP_pick, xP_func, xP_not, xP_add, xP_sub, xP_mul, xP_lss, xP_leq, xP_gtr, xP_geq, xP_max2, xP_min2, xR_eql, xR_neq, Nat.zero_add, Nat.add_zero, Nat.reduceAdd, List.getD_cons_zero, List.getD_cons_succ, xIf_true, xIf_false, FA_40_0, FA_40_1, FA_47_0, FA_47_1, FA_47_2, LEN_34, LEN_38, LEN_48, LEN_53, LEN_78]
    refine (xP_assert (noUnsE _)).2 ?_
    simp only [xP_ex0, xP_ex1, xP_nil, xP_pick, xP_func, xP_not, xP_add, xP_sub, xP_mul, xP_lss, xP_leq, xP_gtr, xP_geq, xP_max2, xP_min2, xR_eql, xR_neq, Nat.zero_add, Nat.add_zero, Nat.reduceAdd, List.getD_cons_zero, List.getD_cons_succ, xIf_true, xIf_false, FA_40_0, FA_40_1, FA_47_0, FA_47_1, FA_47_2, LEN_34, LEN_38, LEN_48, LEN_53, LEN_78]
    refine ⟨hk02.mono (by simp), ?_⟩
    rw [← hke]
    exact ⟨rfl, ht.kept hk02 (by simp)⟩
  | loss x y z =>
    refine sTypeOfL ?_
    refine sAssignable (asgLL w2) ?_
    simp only [xP_nil, xP_pick, xP_func, xP_not, xP_add, xP_sub, xP_mul, xP_lss, xP_leq, xP_gtr, xP_geq, xP_max2, xP_min2, xR_eql, xR_neq, Nat.zero_add, Nat.add_zero, Nat.reduceAdd, List.getD_cons_zero, List.getD_cons_succ, xIf_true, xIf_false, FA_40_0, FA_40_1, FA_47_0, FA_47_1, FA_47_2, LEN_34, LEN_38, LEN_48, LEN_53, LEN_78]
    refine (ldN (l := [hdl 51, .pointer (some a), .int .u64 150]) AGG_62 (hb1'.kept hk2 (by simp)).at).2 ?_
    have ha2 : w2.cell? a = some (.pointer (some ⟨t, 0, none⟩)) := (World.cell?_of_block (hk02.block _ hal (by simp))).trans ha
    refine sElemPL ha2 ?_
    refine sValueOfL fun w3 hb3 hk3 hz3 => ?_
    refine sSetL hl ((ht.kept hk02 (by simp)).kept hk3 (by simp)) hb3 fun w4 hb4 hk4 hz4 => ?_
    refine ⟨((hk02.then hk3 (by simp)).mono (by simp)).then hk4 (by simp), ?_⟩
    rw [← hke]
    exact ⟨rfl, hb4⟩
  | flt op i e2 =>
    refine sTypeOfF ?_
    refine sAssignable (asgFL w2) ?_
    simp only [xP_nil, xP_pick, xP_func, xP_not, xP_add, xP_sub, xP_mul, xP_lss, xP_leq, xP_gtr, xP_geq, xP_max2, xP_min2, xR_eql, xR_neq, Nat.zero_add, Nat.add_zero, Nat.reduceAdd, List.getD_cons_zero, List.getD_cons_succ, xIf_true, xIf_false, FA_40_0, FA_40_1, FA_47_0, FA_47_1, FA_47_2, LEN_34, LEN_38, LEN_48, LEN_53, LEN_78]
    refine (xP_assert (noAsF _)).2 ?_
    simp only [xP_ex0, xP_ex1]
    refine xJoin_one ?_
    simp only [xP_nil, xP_pick, xP_func, xP_not, xP_add, xP_sub, xP_mul, xP_lss, xP_leq, xP_gtr, xP_geq, xP_max2, xP_min2, xR_eql, xR_neq, Nat.zero_add, Nat.add_zero, Nat.reduceAdd, List.getD_cons_zero, List.getD_cons_succ, xIf_true, xIf_false, FA_40_0, FA_40_1, FA_47_0, FA_47_1, FA_47_2, LEN_34, LEN_38, LEN_48, LEN_53, LEN_78]
    intro _
    refine (xP_assert (unF _)).2 ?_
    simp only [xP_ex0, xP_ex1, xP_nil, xP_pick, xP_func, xP_not, xP_add, xP_sub, xP_mul, xP_lss, xP_leq, xP_gtr, xP_geq, xP_max2, xP_min2, xR_eql, xR_neq, Nat.zero_add, Nat.add_zero, Nat.reduceAdd, List.getD_cons_zero, List.getD_cons_succ, xIf_true, xIf_false, FA_40_0, FA_40_1, FA_47_0, FA_47_1, FA_47_2, LEN_34, LEN_38, LEN_48, LEN_53, LEN_78]
    refine sUnwrapF (erV_one e2) fun w3 hk3 => ?_
    refine erV_eql.2 ?_
    simp only [xP_nil, xP_pick, xP_func, xP_not, xP_add, xP_sub, xP_mul, xP_lss, xP_leq, xP_gtr, xP_geq, xP_max2, xP_min2, xR_eql, xR_neq, Nat.zero_add, Nat.add_zero, Nat.reduceAdd, List.getD_cons_zero, List.getD_cons_succ, xIf_true, xIf_false, FA_40_0, FA_40_1, FA_47_0, FA_47_1, FA_47_2, LEN_34, LEN_38, LEN_48, LEN_53, LEN_78]
    exact ⟨⟨e2, rfl, hke, hk2.then hk3 (by simp)⟩, depth_lt op i e2⟩
theorem asLq {e : Er} {t : Nat} {old : List Value} {w : World} (hg : Glob w) (hl : old.length = 3) (ht : Blk w t 29 old) :
    Gives Tryd.prog 17 #[erV e, .iface 51 (.pointer (some ⟨t, 0, none⟩))] w fun u w' => AsLPost e t old w u w' := by
  refine C_errors_As ?_
  unfold S_errors_As
  refine erV_eql.2 ?_
  try simp only [xP_nil, xP_pick, xP_func, xP_not, xP_add, xP_sub, xP_mul, xP_lss, xP_leq, xP_gtr, xP_geq, xP_max2, xP_min2, xR_eql, xR_neq, Nat.zero_add, Nat.add_zero, Nat.reduceAdd, List.getD_cons_zero, List.getD_cons_succ, xIf_true, xIf_false, FA_40_0, FA_40_1, FA_47_0, FA_47_1, FA_47_2, LEN_34, LEN_38, LEN_48, LEN_53, LEN_78]
  refine xJoin_one ?_
  refine (xR_eqlI IFA).2 ?_
  try simp only [xP_nil, xP_pick, xP_func, xP_not, xP_add, xP_sub, xP_mul, xP_lss, xP_leq, xP_gtr, xP_geq, xP_max2, xP_min2, xR_eql, xR_neq, Nat.zero_add, Nat.add_zero, Nat.reduceAdd, List.getD_cons_zero, List.getD_cons_succ, xIf_true, xIf_false, FA_40_0, FA_40_1, FA_47_0, FA_47_1, FA_47_2, LEN_34, LEN_38, LEN_48, LEN_53, LEN_78]
  intro _
  refine sValueOfPL fun w1 hba hka hza => ?_
  refine xE_alloc Z_62 fun w2 hb2 hk2 hz2 => ?_
  refine xE_storeN (l1 := []) (l2 := [.pointer none, .pointer none, .int .u64 0]) (l3 := []) SZ_62 hb2 rfl rfl rfl (by intro u hu; simp [rvV, hdl, Value.cells] at hu; rcases hu with rfl | rfl | rfl <;> rfl) fun w3 hb3 hk3 hz3 => ?_
  have hb3' : Blk w3 w1.heap.size 62 [hdl 51, .pointer (some ⟨w.heap.size, 0, none⟩), .int .u64 150] := by simpa [Value.cells, rvV] using hb3
  have hk13 : Kept [] w1 w3 := hk2.trans hk3 (by simp) (by simp)
  have hk03 : Kept [] w w3 := hka.then hk13 (by simp)
  refine (ldN (l := [hdl 51, .pointer (some ⟨w.heap.size, 0, none⟩), .int .u64 150]) AGG_62 hb3'.at).2 ?_
  have hcell : w3.cell? ⟨w.heap.size, 0, none⟩ = some (.pointer (some ⟨t, 0, none⟩)) := (hba.kept hk13 (by simp)).cell (o := 0)
  refine sTypePL ?_
  refine xJoin_one (xJoin_one ?_)
  refine sKind (kindPL w3) ?_
  simp only [xP_nil, xP_pick, xP_func, xP_not, xP_add, xP_sub, xP_mul, xP_lss, xP_leq, xP_gtr, xP_geq, xP_max2, xP_min2, xR_eql, xR_neq, Nat.zero_add, Nat.add_zero, Nat.reduceAdd, List.getD_cons_zero, List.getD_cons_succ, xIf_true, xIf_false, FA_40_0, FA_40_1, FA_47_0, FA_47_1, FA_47_2, LEN_34, LEN_38, LEN_48, LEN_53, LEN_78, show decide ((22 : Int) ≠ 22) = false from rfl]
  refine (ldN (l := [hdl 51, .pointer (some ⟨w.heap.size, 0, none⟩), .int .u64 150]) AGG_62 hb3'.at).2 ?_
  refine sIsNilPL hcell ?_
  intro _
  try simp only [xP_nil, xP_pick, xP_func, xP_not, xP_add, xP_sub, xP_mul, xP_lss, xP_leq, xP_gtr, xP_geq, xP_max2, xP_min2, xR_eql, xR_neq, Nat.zero_add, Nat.add_zero, Nat.reduceAdd, List.getD_cons_zero, List.getD_cons_succ, xIf_true, xIf_false, FA_40_0, FA_40_1, FA_47_0, FA_47_1, FA_47_2, LEN_34, LEN_38, LEN_48, LEN_53, LEN_78]
  intro _
  refine sElemT (elemPL w3) ?_
  refine xJoin_one (xJoin_one ?_)
  refine sKind (kindL w3) ?_
  simp only [xP_nil, xP_pick, xP_func, xP_not, xP_add, xP_sub, xP_mul, xP_lss, xP_leq, xP_gtr, xP_geq, xP_max2, xP_min2, xR_eql, xR_neq, Nat.zero_add, Nat.add_zero, Nat.reduceAdd, List.getD_cons_zero, List.getD_cons_succ, xIf_true, xIf_false, FA_40_0, FA_40_1, FA_47_0, FA_47_1, FA_47_2, LEN_34, LEN_38, LEN_48, LEN_53, LEN_78, show decide ((25 : Int) ≠ 20) = true from rfl]
  refine (ld1 ONE_55 (v := rtV 23) (hg.kept0 hk03)).2 ?_
  refine sImplements (implL w3) ?_
  simp only [xP_nil, xP_pick, xP_func, xP_not, xP_add, xP_sub, xP_mul, xP_lss, xP_leq, xP_gtr, xP_geq, xP_max2, xP_min2, xR_eql, xR_neq, Nat.zero_add, Nat.add_zero, Nat.reduceAdd, List.getD_cons_zero, List.getD_cons_succ, xIf_true, xIf_false, FA_40_0, FA_40_1, FA_47_0, FA_47_1, FA_47_2, LEN_34, LEN_38, LEN_48, LEN_53, LEN_78, Bool.not_true]
  intro _
  try simp only [xP_nil, xP_pick, xP_func, xP_not, xP_add, xP_sub, xP_mul, xP_lss, xP_leq, xP_gtr, xP_geq, xP_max2, xP_min2, xR_eql, xR_neq, Nat.zero_add, Nat.add_zero, Nat.reduceAdd, List.getD_cons_zero, List.getD_cons_succ, xIf_true, xIf_false, FA_40_0, FA_40_1, FA_47_0, FA_47_1, FA_47_2, LEN_34, LEN_38, LEN_48, LEN_53, LEN_78]
  intro _
  refine (ldN (l := [hdl 51, .pointer (some ⟨w.heap.size, 0, none⟩), .int .u64 150]) AGG_62 hb3'.at).2 ?_
  have hlt := ht.lt
  refine xE_call CF_23 (asL1q (e := e) hl (ht.kept hk03 (by simp)) hcell (by have := hk13.size; show w.heap.size < _; omega) (by show w.heap.size ≠ t; omega)) ?_
  rintro u w4 ⟨hk4, hm⟩
  exact ⟨(hk03.mono (by simp)).then hk4 (by simp), hm⟩
end Go.Proofs.YtpgfmpjepoedjaaDoor
