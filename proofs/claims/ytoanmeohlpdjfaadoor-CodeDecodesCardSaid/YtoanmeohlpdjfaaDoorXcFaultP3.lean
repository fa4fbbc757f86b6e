import Derived.Test.YtoanmeohlpdjfaaDoorXcFaultPO
import Derived.Test.YtoanmeohlpdjfaaDoorXB
namespace Go.Proofs.YtoanmeohlpdjfaaDoor
set_option linter.unusedSimpArgs false
set_option linter.unusedVariables false
set_option maxRecDepth 100000
attribute [local irreducible] Go.X.xE
open Go Go.X Go.Extern Go.RowKit

/-! ### errors.As at a Fault's target -/
theorem vofPF (t : Addr) (w : World) : (ReflectliteValue.unpack (.iface 104 (.pointer (some t)))).run Tryd.prog w = .ok (rvV 104 ⟨w.heap.size, 0, none⟩ 150) (w.alloc (.cells #[.pointer (some t)] 104)) := by kernel_rfl
theorem vofF (a b c : Value) (w : World) : (ReflectliteValue.unpack (.iface 82 (.agg #[a, b, c]))).run Tryd.prog w = .ok (rvV 82 ⟨w.heap.size, 0, none⟩ 153) (w.alloc (.cells #[a, b, c] 82)) := by kernel_rfl
theorem typePF (a : Addr) (w : World) : (ReflectliteValue.methodAny (ReflectliteValue.valueError "reflectlite.Value.Type" 0) (fun t _ _ _ => ReflectliteType.toType t) #[rvV 104 a 150]).run Tryd.prog w = .ok (rtV 104) w := by kernel_rfl
theorem kindPF (w : World) : ((ReflectliteType.abiMethod fun t => do pure (.int .u8 (← Rtype.kind t))) #[hdl 104]).run Tryd.prog w = .ok (.int .u8 22) w := by kernel_rfl
theorem kindF (w : World) : ((ReflectliteType.abiMethod fun t => do pure (.int .u8 (← Rtype.kind t))) #[hdl 82]).run Tryd.prog w = .ok (.int .u8 25) w := by kernel_rfl
theorem partsPF (a : Addr) (w : World) : (ReflectliteValue.parts (rvV 104 a 150)).run Tryd.prog w = .ok (some (104, a, 150)) w := by kernel_rfl
theorem partsF (a : Addr) (w : World) : (ReflectliteValue.parts (rvV 82 a 153)).run Tryd.prog w = .ok (some (82, a, 153)) w := by kernel_rfl
theorem partsFA (a : Addr) (w : World) : (ReflectliteValue.parts (rvV 82 a 409)).run Tryd.prog w = .ok (some (82, a, 409)) w := by kernel_rfl
theorem elemPF (w : World) : (ReflectliteType.method ReflectliteType.elem #[.agg #[hdl 104]]).run Tryd.prog w = .ok (rtV 82) w := by kernel_rfl
theorem implF (w : World) : (ReflectliteType.relation "Implements" ReflectliteType.implements_ #[.agg #[hdl 82], rtV 24]).run Tryd.prog w = .ok (.bool true) w := by kernel_rfl
theorem asgEF (w : World) : (ReflectliteType.relation "AssignableTo" ReflectliteType.assignableTo #[.agg #[hdl 27], rtV 82]).run Tryd.prog w = .ok (.bool false) w := by kernel_rfl
theorem asgFF (w : World) : (ReflectliteType.relation "AssignableTo" ReflectliteType.assignableTo #[.agg #[hdl 82], rtV 82]).run Tryd.prog w = .ok (.bool true) w := by kernel_rfl
theorem elemOfPF (w : World) : (Rtype.elem? 104).run Tryd.prog w = .ok (some 82) w := by kernel_rfl
theorem mkFA (p : Addr) (w : World) : (ReflectliteValue.mk 82 p ReflectliteValue.flagAddr).run Tryd.prog w = .ok (rvV 82 p 409) w := by kernel_rfl
theorem dirF (w : World) : (Rtype.directlyAssignable 82 82).run Tryd.prog w = .ok true w := by kernel_rfl
theorem ONEPF : oneB Tryd.prog 104 = true := by kernel_rfl
theorem CPF : concB Tryd.prog 104 = true := by kernel_rfl
def encFl (x : ByteArray × Int × Er) : List Value := [.string x.1, .int .i64 x.2.1, erV x.2.2]
theorem encFl_len (x : ByteArray × Int × Er) : (encFl x).length = 3 := rfl
theorem encFl_one (x : ByteArray × Int × Er) : ∀ u ∈ encFl x, u.oneCell' = true := by intro u hu; simp [encFl] at hu; rcases hu with rfl | rfl | rfl <;> first | rfl | exact erV_one _
def vFl (x : ByteArray × Int × Er) : Value := .agg (encFl x).toArray
theorem rowFl : RowB Tryd.prog 79 82 3 encFl vFl := RowB.agg SL_79 SZ_82 encFl_len AGG_82
section
variable {K : Value → World → Prop} {w : World}
theorem sValueOfPF {t : Addr} (k : ∀ w', Blk w' w.heap.size 104 [.pointer (some t)] → Kept [] w w' → w'.heap.size = w.heap.size + 1 → K (rvV 104 ⟨w.heap.size, 0, none⟩ 150) w') : xE Tryd.prog (sCall 41 #[.iface 104 (.pointer (some t))]) w K :=
  xValueOf (args := #[.iface 104 (.pointer (some t))]) (vofPF t w) (k _ (blk_alloc w 104 [.pointer (some t)]) (kept_alloc _ _ _) (by simp))
theorem sValueOfF {x : ByteArray × Int × Er} (k : ∀ w', Blk w' w.heap.size 82 (encFl x) → Kept [] w w' → w'.heap.size = w.heap.size + 1 → K (rvV 82 ⟨w.heap.size, 0, none⟩ 153) w') : xE Tryd.prog (sCall 41 #[faultV x.1 x.2.1 (erV x.2.2)]) w K :=
  xValueOf (args := #[faultV x.1 x.2.1 (erV x.2.2)]) (vofF (.string x.1) (.int .i64 x.2.1) (erV x.2.2) w) (k _ (blk_alloc w 82 (encFl x)) (kept_alloc _ _ _) (by simp))
theorem sTypePF {a : Addr} (k : K (rtV 104) w) : xE Tryd.prog (sCall 42 #[rvV 104 a 150]) w K := xType (args := #[rvV 104 a 150]) (typePF a w) k
theorem sIsNilPF {a p : Addr} (ha : w.cell? a = some (.pointer (some p))) (k : K (.bool false) w) : xE Tryd.prog (sCall 43 #[rvV 104 a 150]) w K :=
  xIsNil (args := #[rvV 104 a 150]) (rl_isNil (partsPF a w) (by decide) ONEPF ha) k
theorem sElemPF {a p : Addr} (ha : w.cell? a = some (.pointer (some p))) (k : K (rvV 82 p 409) w) : xE Tryd.prog (sCall 51 #[rvV 104 a 150]) w K :=
  xElemV (args := #[rvV 104 a 150]) (rl_elem (partsPF a w) (by decide) ONEPF ha (elemOfPF w) (mkFA p w)) k
theorem sSetF {t b : Nat} {old : List Value} {x : ByteArray × Int × Er} (hl : old.length = 3) (ht : Blk w t 82 old) (hb : Blk w b 82 (encFl x)) (k : ∀ w', Blk w' t 82 (encFl x) → Kept [t] w w' → w'.heap.size = w.heap.size → K (.tuple #[]) w') :
    xE Tryd.prog (sCall 52 #[rvV 82 ⟨t, 0, none⟩ 409, rvV 82 ⟨b, 0, none⟩ 153]) w K := by
  obtain ⟨w4, hr, hb4, hk4, hz4⟩ := storeVar_run (P := Tryd.prog) (T := 82) (v := vFl x) (l1 := []) (l2 := old) (l3 := []) SZ_82 (by simpa using ht) rfl hl rfl (encFl_one x)
  refine xSet (args := #[rvV 82 ⟨t, 0, none⟩ 409, rvV 82 ⟨b, 0, none⟩ 153]) (rl_set (partsFA ⟨t, 0, none⟩ w) (partsF ⟨b, 0, none⟩ w) (by decide) (load_of_s (loadN (l := encFl x) AGG_82 hb.at)) (dirF w) (store_of_s hr)) (k w4 (by simpa [vFl, Value.cells] using hb4) hk4 hz4)
end

/-- What errors.As leaves at a Fault's target. -/
def AsFPost (e : Er) (t : Nat) (old : List Value) (w : World) (u : Value) (w' : World) : Prop := Kept [t] w w' ∧ match e with
  | .flt op a e' => u = .bool true ∧ Blk w' t 82 (encFl (op, a, e'))
  | _ => u = .bool false ∧ Blk w' t 82 old
theorem asF1_ok {e : Er} (hp : Er.plain e) {t : Nat} {a : Addr} {old : List Value} {w : World} (hl : old.length = 3) (ht : Blk w t 82 old) (ha : w.cell? a = some (.pointer (some ⟨t, 0, none⟩))) (hal : a.block < w.heap.size) (hne : a.block ≠ t) :
    Gives Tryd.prog 44 #[erV e, .iface 104 (.pointer (some ⟨t, 0, none⟩)), rvV 104 a 150, rtV 82] w fun u w' => AsFPost e t old w u w' := by
  refine C_errors_as ?_
  unfold S_errors_as
  refine xE_box fun w1 hb1 hk1 hz1 => ?_
  have hb1' : Blk w1 w.heap.size 90 [hdl 104, .pointer (some a), .int .u64 150] := hb1
  refine xLoop_of (fun vs w' => vs = [erV e] ∧ w1 = w') (fun vs _ => 0) ⟨rfl, rfl⟩ ?_
  rintro _ _ _ ⟨rfl, rfl⟩
  simp only [xP_nil, xP_pick, xP_func, xP_not, xP_add, xP_sub, xP_mul, xP_lss, xP_leq, xP_gtr, xP_geq, xP_max2, xP_min2, xR_eql, xR_neq, Nat.zero_add, Nat.add_zero, Nat.reduceAdd, List.getD_cons_zero, List.getD_cons_succ, xIf_true, xIf_false, FA_35_0, FA_35_1, FA_66_0, FA_66_1, FA_66_2, FA_82_0, FA_82_1, FA_82_2, FA_86_0, FA_86_1, LEN_29, LEN_32, LEN_47, LEN_48, LEN_79, LEN_116]
  cases e with
  | loss a b c => exact hp.elim
  | no k =>
    refine sTypeOfE ?_
    refine sAssignable (asgEF w1) ?_
    simp only [xP_nil, xP_pick, xP_func, xP_not, xP_add, xP_sub, xP_mul, xP_lss, xP_leq, xP_gtr, xP_geq, xP_max2, xP_min2, xR_eql, xR_neq, Nat.zero_add, Nat.add_zero, Nat.reduceAdd, List.getD_cons_zero, List.getD_cons_succ, xIf_true, xIf_false, FA_35_0, FA_35_1, FA_66_0, FA_66_1, FA_66_2, FA_82_0, FA_82_1, FA_82_2, FA_86_0, FA_86_1, LEN_29, LEN_32, LEN_47, LEN_48, LEN_79, LEN_116]
    refine (xP_assert (noAsE _)).2 ?_
    simp only [xP_ex0, xP_ex1]
    refine xJoin_one ?_
    simp only [xP_nil, xP_pick, xP_func, xP_not, xP_add, xP_sub, xP_mul, xP_lss, xP_leq, xP_gtr, xP_geq, xP_max2, xP_min2, xR_eql, xR_neq, Nat.zero_add, Nat.add_zero, Nat.reduceAdd, List.getD_cons_zero, List.getD_cons_succ, xIf_true, xIf_false, FA_35_0, FA_35_1, FA_66_0, FA_66_1, FA_66_2, FA_82_0, FA_82_1, FA_82_2, FA_86_0, FA_86_1, LEN_29, LEN_32, LEN_47, LEN_48, LEN_79, LEN_116]
    intro _
    refine (xP_assert (noUnE _)).2 ?_
    simp only [xP_ex0, xP_ex1, xP_nil, xP_pick, xP_func, xP_not, xP_add, xP_sub, xP_mul, xP_lss, xP_leq, xP_gtr, xP_geq, xP_max2, xP_min2, xR_eql, xR_neq, Nat.zero_add, Nat.add_zero, Nat.reduceAdd, List.getD_cons_zero, List.getD_cons_succ, xIf_true, xIf_false, FA_35_0, FA_35_1, FA_66_0, FA_66_1, FA_66_2, FA_82_0, FA_82_1, FA_82_2, FA_86_0, FA_86_1, LEN_29, LEN_32, LEN_47, LEN_48, LEN_79, LEN_116]
    refine (xP_assert (noUnsE _)).2 ?_
    simp only [xP_ex0, xP_ex1, xP_nil, xP_pick, xP_func, xP_not, xP_add, xP_sub, xP_mul, xP_lss, xP_leq, xP_gtr, xP_geq, xP_max2, xP_min2, xR_eql, xR_neq, Nat.zero_add, Nat.add_zero, Nat.reduceAdd, List.getD_cons_zero, List.getD_cons_succ, xIf_true, xIf_false, FA_35_0, FA_35_1, FA_66_0, FA_66_1, FA_66_2, FA_82_0, FA_82_1, FA_82_2, FA_86_0, FA_86_1, LEN_29, LEN_32, LEN_47, LEN_48, LEN_79, LEN_116]
    exact ⟨hk1.mono (by simp), rfl, ht.kept hk1 (by simp)⟩
  | flt op i e2 =>
    refine sTypeOfF ?_
    refine sAssignable (asgFF w1) ?_
    simp only [xP_nil, xP_pick, xP_func, xP_not, xP_add, xP_sub, xP_mul, xP_lss, xP_leq, xP_gtr, xP_geq, xP_max2, xP_min2, xR_eql, xR_neq, Nat.zero_add, Nat.add_zero, Nat.reduceAdd, List.getD_cons_zero, List.getD_cons_succ, xIf_true, xIf_false, FA_35_0, FA_35_1, FA_66_0, FA_66_1, FA_66_2, FA_82_0, FA_82_1, FA_82_2, FA_86_0, FA_86_1, LEN_29, LEN_32, LEN_47, LEN_48, LEN_79, LEN_116]
    refine (ldN (l := [hdl 104, .pointer (some a), .int .u64 150]) AGG_90 hb1'.at).2 ?_
    have ha2 : w1.cell? a = some (.pointer (some ⟨t, 0, none⟩)) := (World.cell?_of_block (hk1.block _ hal (by simp))).trans ha
    refine sElemPF ha2 ?_
    refine sValueOfF (x := (op, i, e2)) fun w3 hb3 hk3 hz3 => ?_
    refine sSetF hl ((ht.kept hk1 (by simp)).kept hk3 (by simp)) hb3 fun w4 hb4 hk4 hz4 => ?_
    exact ⟨((hk1.then hk3 (by simp)).mono (by simp)).then hk4 (by simp), rfl, hb4⟩
theorem asF_ok {e : Er} (hp : Er.plain e) {t : Nat} {old : List Value} {w : World} (hg : Glob w) (hl : old.length = 3) (ht : Blk w t 82 old) :
    Gives Tryd.prog 30 #[erV e, .iface 104 (.pointer (some ⟨t, 0, none⟩))] w fun u w' => AsFPost e t old w u w' := by
  refine C_errors_As ?_
  unfold S_errors_As
  refine erV_eql.2 ?_
  try simp only [xP_nil, xP_pick, xP_func, xP_not, xP_add, xP_sub, xP_mul, xP_lss, xP_leq, xP_gtr, xP_geq, xP_max2, xP_min2, xR_eql, xR_neq, Nat.zero_add, Nat.add_zero, Nat.reduceAdd, List.getD_cons_zero, List.getD_cons_succ, xIf_true, xIf_false, FA_35_0, FA_35_1, FA_66_0, FA_66_1, FA_66_2, FA_82_0, FA_82_1, FA_82_2, FA_86_0, FA_86_1, LEN_29, LEN_32, LEN_47, LEN_48, LEN_79, LEN_116]
  refine xJoin_one ?_
  refine (xR_eqlI IFA).2 ?_
  try simp only [xP_nil, xP_pick, xP_func, xP_not, xP_add, xP_sub, xP_mul, xP_lss, xP_leq, xP_gtr, xP_geq, xP_max2, xP_min2, xR_eql, xR_neq, Nat.zero_add, Nat.add_zero, Nat.reduceAdd, List.getD_cons_zero, List.getD_cons_succ, xIf_true, xIf_false, FA_35_0, FA_35_1, FA_66_0, FA_66_1, FA_66_2, FA_82_0, FA_82_1, FA_82_2, FA_86_0, FA_86_1, LEN_29, LEN_32, LEN_47, LEN_48, LEN_79, LEN_116]
  intro _
  refine sValueOfPF fun w1 hba hka hza => ?_
  refine xE_alloc Z_90 fun w2 hb2 hk2 hz2 => ?_
  refine xE_storeN (l1 := []) (l2 := [.pointer none, .pointer none, .int .u64 0]) (l3 := []) SZ_90 hb2 rfl rfl rfl (by intro u hu; simp [rvV, hdl, Value.cells] at hu; rcases hu with rfl | rfl | rfl <;> rfl) fun w3 hb3 hk3 hz3 => ?_
  have hb3' : Blk w3 w1.heap.size 90 [hdl 104, .pointer (some ⟨w.heap.size, 0, none⟩), .int .u64 150] := by simpa [Value.cells, rvV] using hb3
  have hk13 : Kept [] w1 w3 := hk2.trans hk3 (by simp) (by simp)
  have hk03 : Kept [] w w3 := hka.then hk13 (by simp)
  refine (ldN (l := [hdl 104, .pointer (some ⟨w.heap.size, 0, none⟩), .int .u64 150]) AGG_90 hb3'.at).2 ?_
  have hcell : w3.cell? ⟨w.heap.size, 0, none⟩ = some (.pointer (some ⟨t, 0, none⟩)) := (hba.kept hk13 (by simp)).cell (o := 0)
  refine sTypePF ?_
  refine xJoin_one (xJoin_one ?_)
  refine sKind (kindPF w3) ?_
  simp only [xP_nil, xP_pick, xP_func, xP_not, xP_add, xP_sub, xP_mul, xP_lss, xP_leq, xP_gtr, xP_geq, xP_max2, xP_min2, xR_eql, xR_neq, Nat.zero_add, Nat.add_zero, Nat.reduceAdd, List.getD_cons_zero, List.getD_cons_succ, xIf_true, xIf_false, FA_35_0, FA_35_1, FA_66_0, FA_66_1, FA_66_2, FA_82_0, FA_82_1, FA_82_2, FA_86_0, FA_86_1, LEN_29, LEN_32, LEN_47, LEN_48, LEN_79, LEN_116, show decide ((22 : Int) ≠ 22) = false from rfl]
  refine (ldN (l := [hdl 104, .pointer (some ⟨w.heap.size, 0, none⟩), .int .u64 150]) AGG_90 hb3'.at).2 ?_
  refine sIsNilPF hcell ?_
  intro _
  try simp only [xP_nil, xP_pick, xP_func, xP_not, xP_add, xP_sub, xP_mul, xP_lss, xP_leq, xP_gtr, xP_geq, xP_max2, xP_min2, xR_eql, xR_neq, Nat.zero_add, Nat.add_zero, Nat.reduceAdd, List.getD_cons_zero, List.getD_cons_succ, xIf_true, xIf_false, FA_35_0, FA_35_1, FA_66_0, FA_66_1, FA_66_2, FA_82_0, FA_82_1, FA_82_2, FA_86_0, FA_86_1, LEN_29, LEN_32, LEN_47, LEN_48, LEN_79, LEN_116]
  intro _
  refine sElemT (elemPF w3) ?_
  refine xJoin_one (xJoin_one ?_)
  refine sKind (kindF w3) ?_
  simp only [xP_nil, xP_pick, xP_func, xP_not, xP_add, xP_sub, xP_mul, xP_lss, xP_leq, xP_gtr, xP_geq, xP_max2, xP_min2, xR_eql, xR_neq, Nat.zero_add, Nat.add_zero, Nat.reduceAdd, List.getD_cons_zero, List.getD_cons_succ, xIf_true, xIf_false, FA_35_0, FA_35_1, FA_66_0, FA_66_1, FA_66_2, FA_82_0, FA_82_1, FA_82_2, FA_86_0, FA_86_1, LEN_29, LEN_32, LEN_47, LEN_48, LEN_79, LEN_116, show decide ((25 : Int) ≠ 20) = true from rfl]
  refine (ld1 ONE_93 (v := rtV 24) (hg.kept0 hk03)).2 ?_
  refine sImplements (implF w3) ?_
  simp only [xP_nil, xP_pick, xP_func, xP_not, xP_add, xP_sub, xP_mul, xP_lss, xP_leq, xP_gtr, xP_geq, xP_max2, xP_min2, xR_eql, xR_neq, Nat.zero_add, Nat.add_zero, Nat.reduceAdd, List.getD_cons_zero, List.getD_cons_succ, xIf_true, xIf_false, FA_35_0, FA_35_1, FA_66_0, FA_66_1, FA_66_2, FA_82_0, FA_82_1, FA_82_2, FA_86_0, FA_86_1, LEN_29, LEN_32, LEN_47, LEN_48, LEN_79, LEN_116, Bool.not_true]
  intro _
  try simp only [xP_nil, xP_pick, xP_func, xP_not, xP_add, xP_sub, xP_mul, xP_lss, xP_leq, xP_gtr, xP_geq, xP_max2, xP_min2, xR_eql, xR_neq, Nat.zero_add, Nat.add_zero, Nat.reduceAdd, List.getD_cons_zero, List.getD_cons_succ, xIf_true, xIf_false, FA_35_0, FA_35_1, FA_66_0, FA_66_1, FA_66_2, FA_82_0, FA_82_1, FA_82_2, FA_86_0, FA_86_1, LEN_29, LEN_32, LEN_47, LEN_48, LEN_79, LEN_116]
  intro _
  refine (ldN (l := [hdl 104, .pointer (some ⟨w.heap.size, 0, none⟩), .int .u64 150]) AGG_90 hb3'.at).2 ?_
  have hlt := ht.lt
  refine xE_call CF_44 (asF1_ok hp hl (ht.kept hk03 (by simp)) hcell (by have := hk13.size; show w.heap.size < _; omega) (by show w.heap.size ≠ t; omega)) ?_
  rintro u w4 ⟨hk4, hm⟩
  exact ⟨(hk03.mono (by simp)).then hk4 (by simp), hm⟩

/-! ### All the Faults of an error -/
def Er.faults : Er → List (ByteArray × Int × Er)
  | .flt op a e => (op, a, e) :: Er.faults e
  | _ => []
theorem Er.plain_in {op : ByteArray} {a : Int} {e : Er} (h : Er.plain (.flt op a e)) : Er.plain e := h
noncomputable def depthM2 : List Value → Nat
  | [v, _] => SizeOf.sizeOf v
  | _ => 0
theorem depth_lt2 (op : ByteArray) (i : Int) (e : Er) (a b : Value) : depthM2 [erV e, a] < depthM2 [erV (.flt op i e), b] := by
  simp only [depthM2, erV, faultV]
  simp
  omega
theorem faults_ok {e : Er} (hp : Er.plain e) (hn : (Er.faults e).length ≤ 1000) {w : World} (hg : Glob w) :
    Gives Tryd.prog 40 #[erV e] w fun u w' => SlT w' encFl u (Er.faults e) ∧ Kept [] w w' := by
  refine C_fault_faults ?_
  unfold S_fault_faults
  refine xE_alloc Z_82 fun w1 hb1 hk1 hz1 => ?_
  generalize hT : w.heap.size = t at *
  refine xLoop_of (fun vs w' => ∃ (e' : Er) (L : List (ByteArray × Int × Er)) (o : Value) (F : List Nat) (old : List Value), vs = [erV e', o] ∧ Er.plain e' ∧ Er.faults e = L ++ Er.faults e' ∧ Own w' 82 3 o L.length (L.flatMap encFl) F ∧ (∀ g ∈ F, t + 1 ≤ g) ∧ old.length = 3 ∧ Blk w' t 82 old ∧ Kept [] w w' ∧ t + 1 ≤ w'.heap.size)
    (fun vs _ => depthM2 vs) ⟨e, [], .slice none 0 0, [], _, rfl, hp, rfl, own_nil _ _ _, by simp, rfl, hb1, hk1, by omega⟩ ?_
  rintro _ _ w2 ⟨e', L, o, F, old, rfl, hp', hfe, ho, hF, hol, hb2, hk2, hz2⟩
  simp only [xP_nil, xP_pick, xP_func, xP_not, xP_add, xP_sub, xP_mul, xP_lss, xP_leq, xP_gtr, xP_geq, xP_max2, xP_min2, xR_eql, xR_neq, Nat.zero_add, Nat.add_zero, Nat.reduceAdd, List.getD_cons_zero, List.getD_cons_succ, xIf_true, xIf_false, FA_35_0, FA_35_1, FA_66_0, FA_66_1, FA_66_2, FA_82_0, FA_82_1, FA_82_2, FA_86_0, FA_86_1, LEN_29, LEN_32, LEN_47, LEN_48, LEN_79, LEN_116, xP_iface CPF]
  refine xE_call CF_30 (asF_ok hp' (hg.kept0 hk2) hol hb2) ?_
  rintro u w3 ⟨hk3, hm⟩
  have hk03 : Kept [] w w3 := hk2.then hk3 (by simp; omega)
  have hz3 := hk3.size
  have ho3 : Own w3 82 3 o L.length (L.flatMap encFl) F := ho.kept hk3 (fun g hg hm => by have := hF g hg; simp at hm; omega)
  cases e' with
  | loss a b c => exact hp'.elim
  | no k =>
    obtain ⟨rfl, hb3⟩ := hm
    try simp only [xP_nil, xP_pick, xP_func, xP_not, xP_add, xP_sub, xP_mul, xP_lss, xP_leq, xP_gtr, xP_geq, xP_max2, xP_min2, xR_eql, xR_neq, Nat.zero_add, Nat.add_zero, Nat.reduceAdd, List.getD_cons_zero, List.getD_cons_succ, xIf_true, xIf_false, FA_35_0, FA_35_1, FA_66_0, FA_66_1, FA_66_2, FA_82_0, FA_82_1, FA_82_2, FA_86_0, FA_86_1, LEN_29, LEN_32, LEN_47, LEN_48, LEN_79, LEN_116]
    refine ⟨?_, hk03⟩
    rw [hfe]
    simp only [Er.faults, List.append_nil]
    exact ho3.slT encFl_len (by omega)
  | flt op i e2 =>
    obtain ⟨rfl, hb3⟩ := hm
    try simp only [xP_nil, xP_pick, xP_func, xP_not, xP_add, xP_sub, xP_mul, xP_lss, xP_leq, xP_gtr, xP_geq, xP_max2, xP_min2, xR_eql, xR_neq, Nat.zero_add, Nat.add_zero, Nat.reduceAdd, List.getD_cons_zero, List.getD_cons_succ, xIf_true, xIf_false, FA_35_0, FA_35_1, FA_66_0, FA_66_1, FA_66_2, FA_82_0, FA_82_1, FA_82_2, FA_86_0, FA_86_1, LEN_29, LEN_32, LEN_47, LEN_48, LEN_79, LEN_116]
    refine (ldN (l := encFl (op, i, e2)) AGG_82 hb3.at).2 ?_
    refine xE_buildSlice EL_79 [vFl (op, i, e2)] rfl rfl (by simp [vFl, encFl, Value.cells]) (by omega) (by omega) fun w4 hb4 hk4 hz4 => ?_
    have hat : At w4 w3.heap.size 0 ([(op, i, e2)].flatMap encFl) := by
      have := hb4.at
      simpa [vFl, Value.cells] using this
    have hLl : L.length + 1 ≤ 1000 := by
      have := congrArg List.length hfe
      simp only [Er.faults, List.length_append, List.length_cons] at this
      omega
    refine xE_append (m := 1) EL_79 (ho3.kept hk4 (by simp)) hat (by rw [flat_len encFl_len]; rfl) (by intro u hu; simp at hu; exact encFl_one _ u hu) (by omega) (by unfold maxLen; omega) (by omega) fun o' w5 F' ho' hk5 hF' _ => ?_
    have hnt : t ∉ F := fun hm => by have := hF t hm; omega
    have hb5 := (hb3.kept hk4 (by simp)).kept hk5 hnt
    have hz5 := hk5.size
    try simp only [xP_nil, xP_pick, xP_func, xP_not, xP_add, xP_sub, xP_mul, xP_lss, xP_leq, xP_gtr, xP_geq, xP_max2, xP_min2, xR_eql, xR_neq, Nat.zero_add, Nat.add_zero, Nat.reduceAdd, List.getD_cons_zero, List.getD_cons_succ, xIf_true, xIf_false, FA_35_0, FA_35_1, FA_66_0, FA_66_1, FA_66_2, FA_82_0, FA_82_1, FA_82_2, FA_86_0, FA_86_1, LEN_29, LEN_32, LEN_47, LEN_48, LEN_79, LEN_116]
    refine (ld1 ONE_24 (v := erV e2) (hb5.cell (o := 2))).2 ?_
    have hF2 : ∀ g ∈ F', t + 1 ≤ g := fun g hg => (hF' g hg).elim (hF g) (fun h => by omega)
    refine ⟨⟨e2, L ++ [(op, i, e2)], o', F', _, rfl, hp', by rw [hfe]; simp [Er.faults], by rw [List.flatMap_append, List.length_append]; exact ho', hF2, rfl, hb5, (hk03.then hk4 (by simp)).then hk5 (fun g hg => .inr (by have := hF g hg; omega)), by omega⟩, depth_lt2 op i e2 o' o⟩
theorem faults_last : ∀ (e : Er), e.where? = (Er.faults e).getLast?.map fun x => (x.1, x.2.1)
  | .no _ => rfl
  | .loss _ _ _ => rfl
  | .flt op a e => by
    have ih := faults_last e
    simp only [Er.where?, Er.faults]
    cases hf : Er.faults e with
    | nil => rw [hf] at ih; simp at ih; rw [ih]; rfl
    | cons x l =>
      rw [hf] at ih
      rw [ih]
      rw [List.getLast?_cons_cons]
      cases hg : (x :: l).getLast? with
      | none => simp at hg
      | some y => rfl
def whereV : Option (ByteArray × Int) → Value
  | some (op, a) => .tuple #[.string op, .int .i64 a, .bool true]
  | none => .tuple #[.string ⟨#[]⟩, .int .i64 0, .bool false]
theorem where_ok {e : Er} (hp : Er.plain e) (hn : (Er.faults e).length ≤ 1000) {w : World} (hg : Glob w) :
    Gives Tryd.prog 26 #[erV e] w fun u w' => u = whereV e.where? ∧ Kept [] w w' := by
  refine C_fault_Where ?_
  unfold S_fault_Where
  refine xE_call CF_40 (faults_ok hp hn hg) ?_
  rintro u w1 ⟨hsl, hk1⟩
  rw [faults_last]
  obtain ⟨a, c, rfl, hc, hr⟩ := hsl
  have hsl : SlT w1 encFl (.slice a (Er.faults e).length c) (Er.faults e) := ⟨a, c, rfl, hc, hr⟩
  generalize Er.faults e = L at *
  simp only [xP_nil, xP_pick, xP_func, xP_not, xP_add, xP_sub, xP_mul, xP_lss, xP_leq, xP_gtr, xP_geq, xP_max2, xP_min2, xR_eql, xR_neq, Nat.zero_add, Nat.add_zero, Nat.reduceAdd, List.getD_cons_zero, List.getD_cons_succ, xIf_true, xIf_false, FA_35_0, FA_35_1, FA_66_0, FA_66_1, FA_66_2, FA_82_0, FA_82_1, FA_82_2, FA_86_0, FA_86_1, LEN_29, LEN_32, LEN_47, LEN_48, LEN_79, LEN_116, xIf_dec]
  refine ⟨fun h0 => ?_, fun h0 => ?_⟩
  · have : L = [] := List.eq_nil_of_length_eq_zero (by omega)
    subst this
    exact ⟨rfl, hk1⟩
  · rw [wrap64 (by omega) (by omega)]
    have hlt : L.length - 1 < L.length := by omega
    rw [show ((L.length : Int) - 1) = ((L.length - 1 : Nat) : Int) by omega]
    refine (rowFl.get hsl (Kept.refl _ _) hlt).2 ?_
    have hlast : L.getLast? = some L[L.length - 1] := by rw [List.getLast?_eq_getElem?, List.getElem?_eq_getElem hlt]
    rw [hlast]
    generalize L[L.length - 1] = x at *
    refine xE_alloc Z_82 fun w2 hb2 hk2 hz2 => ?_
    refine xE_storeN (l1 := []) (l2 := [.string ⟨#[]⟩, .int .i64 0, .nilIface]) (l3 := []) SZ_82 hb2 rfl rfl rfl (encFl_one x) fun w3 hb3 hk3 hz3 => ?_
    have hb3' : Blk w3 w1.heap.size 82 (encFl x) := by simpa [vFl, Value.cells] using hb3
    try simp only [xP_nil, xP_pick, xP_func, xP_not, xP_add, xP_sub, xP_mul, xP_lss, xP_leq, xP_gtr, xP_geq, xP_max2, xP_min2, xR_eql, xR_neq, Nat.zero_add, Nat.add_zero, Nat.reduceAdd, List.getD_cons_zero, List.getD_cons_succ, xIf_true, xIf_false, FA_35_0, FA_35_1, FA_66_0, FA_66_1, FA_66_2, FA_82_0, FA_82_1, FA_82_2, FA_86_0, FA_86_1, LEN_29, LEN_32, LEN_47, LEN_48, LEN_79, LEN_116]
    refine (ld1 ONE_9 (v := .string x.1) ((blk_drew hb3').cell (o := 0))).2 ?_
    refine (ld1 ONE_3 (v := .int .i64 x.2.1) ((blk_drew hb3').cell (o := 1))).2 ?_
    exact ⟨rfl, ((hk1.then hk2 (by simp)).then hk3 (by simp; exact hk1.size)).drew⟩
/-! ### Of nil -/
theorem faultsNil_ok {w : World} : Gives Tryd.prog 40 #[.nilIface] w fun u w' => u = .slice none 0 0 ∧ Kept [] w w' := by
  refine C_fault_faults ?_
  unfold S_fault_faults
  refine xE_alloc Z_82 fun w1 hb1 hk1 hz1 => ?_
  refine xLoop_of (fun vs w' => vs = [.nilIface, .slice none 0 0] ∧ w1 = w') (fun _ _ => 0) ⟨rfl, rfl⟩ ?_
  rintro _ _ _ ⟨rfl, rfl⟩
  simp only [xP_nil, xP_pick, xP_func, xP_not, xP_add, xP_sub, xP_mul, xP_lss, xP_leq, xP_gtr, xP_geq, xP_max2, xP_min2, xR_eql, xR_neq, Nat.zero_add, Nat.add_zero, Nat.reduceAdd, List.getD_cons_zero, List.getD_cons_succ, xIf_true, xIf_false, FA_35_0, FA_35_1, FA_66_0, FA_66_1, FA_66_2, FA_82_0, FA_82_1, FA_82_2, FA_86_0, FA_86_1, LEN_29, LEN_32, LEN_47, LEN_48, LEN_79, LEN_116, xP_iface CPF]
  refine xE_call CF_30 asNil_ok ?_
  rintro _ _ ⟨rfl, rfl⟩
  try simp only [xP_nil, xP_pick, xP_func, xP_not, xP_add, xP_sub, xP_mul, xP_lss, xP_leq, xP_gtr, xP_geq, xP_max2, xP_min2, xR_eql, xR_neq, Nat.zero_add, Nat.add_zero, Nat.reduceAdd, List.getD_cons_zero, List.getD_cons_succ, xIf_true, xIf_false, FA_35_0, FA_35_1, FA_66_0, FA_66_1, FA_66_2, FA_82_0, FA_82_1, FA_82_2, FA_86_0, FA_86_1, LEN_29, LEN_32, LEN_47, LEN_48, LEN_79, LEN_116]
  exact ⟨rfl, hk1⟩
theorem whereNil_ok {w : World} : Gives Tryd.prog 26 #[.nilIface] w fun u w' => u = whereV none ∧ Kept [] w w' := by
  refine C_fault_Where ?_
  unfold S_fault_Where
  refine xE_call CF_40 faultsNil_ok ?_
  rintro _ w1 ⟨rfl, hk1⟩
  simp only [xP_nil, xP_pick, xP_func, xP_not, xP_add, xP_sub, xP_mul, xP_lss, xP_leq, xP_gtr, xP_geq, xP_max2, xP_min2, xR_eql, xR_neq, Nat.zero_add, Nat.add_zero, Nat.reduceAdd, List.getD_cons_zero, List.getD_cons_succ, xIf_true, xIf_false, FA_35_0, FA_35_1, FA_66_0, FA_66_1, FA_66_2, FA_82_0, FA_82_1, FA_82_2, FA_86_0, FA_86_1, LEN_29, LEN_32, LEN_47, LEN_48, LEN_79, LEN_116, show decide (((0 : Nat) : Int) = 0) = true from rfl]
  exact ⟨rfl, hk1⟩
def optWhere : Option Er → Option (ByteArray × Int)
  | none => none
  | some e => e.where?
theorem whereO_ok {e : Option Er} (hp : ∀ x, e = some x → Er.plain x ∧ (Er.faults x).length ≤ 1000) {w : World} (hg : Glob w) :
    Gives Tryd.prog 26 #[optV e] w fun u w' => u = whereV (optWhere e) ∧ Kept [] w w' := by
  cases e with
  | none => exact whereNil_ok
  | some e => exact where_ok (hp e rfl).1 (hp e rfl).2 hg
end Go.Proofs.YtoanmeohlpdjfaaDoor
