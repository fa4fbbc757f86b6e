import Derived.Test.YtoanmeohlpdjfaaDoorXcFaultP1
namespace Go.Proofs.YtoanmeohlpdjfaaDoor
set_option linter.unusedSimpArgs false
set_option linter.unusedVariables false
set_option maxRecDepth 100000
attribute [local irreducible] Go.X.xE
open Go Go.X Go.Extern Go.RowKit

theorem erV_eql {e : Er} {w : World} {K : Value → Prop} : xR Tryd.prog (sEq .eql 24 true (erV e) .nilIface) w K ↔ K (.bool false) := by
  cases e <;> exact xR_eqlI IFE
theorem erV_neq {e : Er} {w : World} {K : Value → Prop} : xR Tryd.prog (sEq .neq 24 true (erV e) .nilIface) w K ↔ K (.bool true) := by
  cases e <;> exact xR_neqI IFE
noncomputable def depthM : List Value → Nat
  | [v] => SizeOf.sizeOf v
  | _ => 0
theorem depth_lt (op : ByteArray) (i : Int) (e : Er) : depthM [erV e] < depthM [erV (.flt op i e)] := by
  simp only [depthM, erV, faultV]
  simp
  omega

theorem as_ok {e : Er} (hp : Er.plain e) {t : Nat} {a : Addr} {old : Value} {w : World} (ht : Blk w t 27 [old]) (ha : w.cell? a = some (.pointer (some ⟨t, 0, none⟩))) (hal : a.block < w.heap.size) (hne : a.block ≠ t) :
    Gives Tryd.prog 44 #[erV e, .iface 68 (.pointer (some ⟨t, 0, none⟩)), rvV 68 a 150, rtV 27] w fun u w' => u = .bool true ∧ Blk w' t 27 [.int .i64 e.kind] ∧ Kept [t] w w' := by
  refine C_errors_as ?_
  unfold S_errors_as
  refine xE_box fun w1 hb1 hk1 hz1 => ?_
  have hb1' : Blk w1 w.heap.size 90 [hdl 68, .pointer (some a), .int .u64 150] := hb1
  refine xLoop_of (fun vs w' => ∃ e' : Er, vs = [erV e'] ∧ Er.plain e' ∧ e'.kind = e.kind ∧ Kept [] w1 w') (fun vs _ => depthM vs) ⟨e, rfl, hp, rfl, Kept.refl _ _⟩ ?_
  rintro _ _ w2 ⟨e', rfl, hp', hke, hk2⟩
  have hk02 : Kept [] w w2 := hk1.then hk2 (by simp)
  simp only [xP_nil, xP_pick, xP_func, xP_not, xP_add, xP_sub, xP_mul, xP_lss, xP_leq, xP_gtr, xP_geq, xP_max2, xP_min2, xR_eql, xR_neq, Nat.zero_add, Nat.add_zero, Nat.reduceAdd, List.getD_cons_zero, List.getD_cons_succ, xIf_true, xIf_false, FA_35_0, FA_35_1, FA_66_0, FA_66_1, FA_66_2, FA_82_0, FA_82_1, FA_82_2, FA_86_0, FA_86_1, LEN_29, LEN_32, LEN_47, LEN_48, LEN_79, LEN_116]
  cases e' with
  | loss a b c => exact hp'.elim
  | no k =>
    refine sTypeOfE ?_
    refine sAssignable (asgEE w2) ?_
    simp only [xP_nil, xP_pick, xP_func, xP_not, xP_add, xP_sub, xP_mul, xP_lss, xP_leq, xP_gtr, xP_geq, xP_max2, xP_min2, xR_eql, xR_neq, Nat.zero_add, Nat.add_zero, Nat.reduceAdd, List.getD_cons_zero, List.getD_cons_succ, xIf_true, xIf_false, FA_35_0, FA_35_1, FA_66_0, FA_66_1, FA_66_2, FA_82_0, FA_82_1, FA_82_2, FA_86_0, FA_86_1, LEN_29, LEN_32, LEN_47, LEN_48, LEN_79, LEN_116]
    refine (ldN (l := [hdl 68, .pointer (some a), .int .u64 150]) AGG_90 (hb1'.kept hk2 (by simp)).at).2 ?_
    have ha2 : w2.cell? a = some (.pointer (some ⟨t, 0, none⟩)) := (World.cell?_of_block (hk02.block _ hal (by simp))).trans ha
    refine sElemPE ha2 ?_
    refine sValueOfE fun w3 hb3 hk3 hz3 => ?_
    refine sSetE ((ht.kept hk02 (by simp)).kept hk3 (by simp)) hb3 fun w4 hb4 hk4 hz4 => ?_
    refine ⟨rfl, ?_, ((hk02.then hk3 (by simp)).mono (by simp)).then hk4 (by simp)⟩
    rw [← hke]
    exact hb4
  | flt op i e2 =>
    refine sTypeOfF ?_
    refine sAssignable (asgFE w2) ?_
    simp only [xP_nil, xP_pick, xP_func, xP_not, xP_add, xP_sub, xP_mul, xP_lss, xP_leq, xP_gtr, xP_geq, xP_max2, xP_min2, xR_eql, xR_neq, Nat.zero_add, Nat.add_zero, Nat.reduceAdd, List.getD_cons_zero, List.getD_cons_succ, xIf_true, xIf_false, FA_35_0, FA_35_1, FA_66_0, FA_66_1, FA_66_2, FA_82_0, FA_82_1, FA_82_2, FA_86_0, FA_86_1, LEN_29, LEN_32, LEN_47, LEN_48, LEN_79, LEN_116]
    refine (xP_assert (noAsF _)).2 ?_
    simp only [xP_ex0, xP_ex1]
    refine xJoin_one ?_
    simp only [xP_nil, xP_pick, xP_func, xP_not, xP_add, xP_sub, xP_mul, xP_lss, xP_leq, xP_gtr, xP_geq, xP_max2, xP_min2, xR_eql, xR_neq, Nat.zero_add, Nat.add_zero, Nat.reduceAdd, List.getD_cons_zero, List.getD_cons_succ, xIf_true, xIf_false, FA_35_0, FA_35_1, FA_66_0, FA_66_1, FA_66_2, FA_82_0, FA_82_1, FA_82_2, FA_86_0, FA_86_1, LEN_29, LEN_32, LEN_47, LEN_48, LEN_79, LEN_116]
    intro _
    refine (xP_assert (unF _)).2 ?_
    simp only [xP_ex0, xP_ex1, xP_nil, xP_pick, xP_func, xP_not, xP_add, xP_sub, xP_mul, xP_lss, xP_leq, xP_gtr, xP_geq, xP_max2, xP_min2, xR_eql, xR_neq, Nat.zero_add, Nat.add_zero, Nat.reduceAdd, List.getD_cons_zero, List.getD_cons_succ, xIf_true, xIf_false, FA_35_0, FA_35_1, FA_66_0, FA_66_1, FA_66_2, FA_82_0, FA_82_1, FA_82_2, FA_86_0, FA_86_1, LEN_29, LEN_32, LEN_47, LEN_48, LEN_79, LEN_116]
    refine sUnwrapF (erV_one e2) fun w3 hk3 => ?_
    refine erV_eql.2 ?_
    simp only [xP_nil, xP_pick, xP_func, xP_not, xP_add, xP_sub, xP_mul, xP_lss, xP_leq, xP_gtr, xP_geq, xP_max2, xP_min2, xR_eql, xR_neq, Nat.zero_add, Nat.add_zero, Nat.reduceAdd, List.getD_cons_zero, List.getD_cons_succ, xIf_true, xIf_false, FA_35_0, FA_35_1, FA_66_0, FA_66_1, FA_66_2, FA_82_0, FA_82_1, FA_82_2, FA_86_0, FA_86_1, LEN_29, LEN_32, LEN_47, LEN_48, LEN_79, LEN_116]
    exact ⟨⟨e2, rfl, hp', hke, hk2.then hk3 (by simp)⟩, depth_lt op i e2⟩

theorem asE_ok {e : Er} (hp : Er.plain e) {t : Nat} {old : Value} {w : World} (hg : Glob w) (ht : Blk w t 27 [old]) :
    Gives Tryd.prog 30 #[erV e, .iface 68 (.pointer (some ⟨t, 0, none⟩))] w fun u w' => u = .bool true ∧ Blk w' t 27 [.int .i64 e.kind] ∧ Kept [t] w w' := by
  refine C_errors_As ?_
  unfold S_errors_As
  refine erV_eql.2 ?_
  try simp only [xP_nil, xP_pick, xP_func, xP_not, xP_add, xP_sub, xP_mul, xP_lss, xP_leq, xP_gtr, xP_geq, xP_max2, xP_min2, xR_eql, xR_neq, Nat.zero_add, Nat.add_zero, Nat.reduceAdd, List.getD_cons_zero, List.getD_cons_succ, xIf_true, xIf_false, FA_35_0, FA_35_1, FA_66_0, FA_66_1, FA_66_2, FA_82_0, FA_82_1, FA_82_2, FA_86_0, FA_86_1, LEN_29, LEN_32, LEN_47, LEN_48, LEN_79, LEN_116]
  refine xJoin_one ?_
  refine (xR_eqlI IFA).2 ?_
  try simp only [xP_nil, xP_pick, xP_func, xP_not, xP_add, xP_sub, xP_mul, xP_lss, xP_leq, xP_gtr, xP_geq, xP_max2, xP_min2, xR_eql, xR_neq, Nat.zero_add, Nat.add_zero, Nat.reduceAdd, List.getD_cons_zero, List.getD_cons_succ, xIf_true, xIf_false, FA_35_0, FA_35_1, FA_66_0, FA_66_1, FA_66_2, FA_82_0, FA_82_1, FA_82_2, FA_86_0, FA_86_1, LEN_29, LEN_32, LEN_47, LEN_48, LEN_79, LEN_116]
  intro _
  refine sValueOfPE fun w1 hba hka hza => ?_
  refine xE_alloc Z_90 fun w2 hb2 hk2 hz2 => ?_
  refine xE_storeN (l1 := []) (l2 := [.pointer none, .pointer none, .int .u64 0]) (l3 := []) SZ_90 hb2 rfl rfl rfl (by intro u hu; simp [rvV, hdl, Value.cells] at hu; rcases hu with rfl | rfl | rfl <;> rfl) fun w3 hb3 hk3 hz3 => ?_
  have hb3' : Blk w3 w1.heap.size 90 [hdl 68, .pointer (some ⟨w.heap.size, 0, none⟩), .int .u64 150] := by simpa [Value.cells, rvV] using hb3
  have hk13 : Kept [] w1 w3 := hk2.trans hk3 (by simp) (by simp)
  have hk03 : Kept [] w w3 := hka.then hk13 (by simp)
  refine (ldN (l := [hdl 68, .pointer (some ⟨w.heap.size, 0, none⟩), .int .u64 150]) AGG_90 hb3'.at).2 ?_
  have hcell : w3.cell? ⟨w.heap.size, 0, none⟩ = some (.pointer (some ⟨t, 0, none⟩)) := (hba.kept hk13 (by simp)).cell (o := 0)
  refine sTypePE ?_
  refine xJoin_one (xJoin_one ?_)
  refine sKind (kindPE w3) ?_
  simp only [xP_nil, xP_pick, xP_func, xP_not, xP_add, xP_sub, xP_mul, xP_lss, xP_leq, xP_gtr, xP_geq, xP_max2, xP_min2, xR_eql, xR_neq, Nat.zero_add, Nat.add_zero, Nat.reduceAdd, List.getD_cons_zero, List.getD_cons_succ, xIf_true, xIf_false, FA_35_0, FA_35_1, FA_66_0, FA_66_1, FA_66_2, FA_82_0, FA_82_1, FA_82_2, FA_86_0, FA_86_1, LEN_29, LEN_32, LEN_47, LEN_48, LEN_79, LEN_116, show decide ((22 : Int) ≠ 22) = false from rfl]
  refine (ldN (l := [hdl 68, .pointer (some ⟨w.heap.size, 0, none⟩), .int .u64 150]) AGG_90 hb3'.at).2 ?_
  refine sIsNilPE hcell ?_
  intro _
  try simp only [xP_nil, xP_pick, xP_func, xP_not, xP_add, xP_sub, xP_mul, xP_lss, xP_leq, xP_gtr, xP_geq, xP_max2, xP_min2, xR_eql, xR_neq, Nat.zero_add, Nat.add_zero, Nat.reduceAdd, List.getD_cons_zero, List.getD_cons_succ, xIf_true, xIf_false, FA_35_0, FA_35_1, FA_66_0, FA_66_1, FA_66_2, FA_82_0, FA_82_1, FA_82_2, FA_86_0, FA_86_1, LEN_29, LEN_32, LEN_47, LEN_48, LEN_79, LEN_116]
  intro _
  refine sElemT (elemPE w3) ?_
  refine xJoin_one (xJoin_one ?_)
  refine sKind (kindE w3) ?_
  simp only [xP_nil, xP_pick, xP_func, xP_not, xP_add, xP_sub, xP_mul, xP_lss, xP_leq, xP_gtr, xP_geq, xP_max2, xP_min2, xR_eql, xR_neq, Nat.zero_add, Nat.add_zero, Nat.reduceAdd, List.getD_cons_zero, List.getD_cons_succ, xIf_true, xIf_false, FA_35_0, FA_35_1, FA_66_0, FA_66_1, FA_66_2, FA_82_0, FA_82_1, FA_82_2, FA_86_0, FA_86_1, LEN_29, LEN_32, LEN_47, LEN_48, LEN_79, LEN_116, show decide ((2 : Int) ≠ 20) = true from rfl]
  refine (ld1 ONE_93 (v := rtV 24) (hg.kept0 hk03)).2 ?_
  refine sImplements (implE w3) ?_
  simp only [xP_nil, xP_pick, xP_func, xP_not, xP_add, xP_sub, xP_mul, xP_lss, xP_leq, xP_gtr, xP_geq, xP_max2, xP_min2, xR_eql, xR_neq, Nat.zero_add, Nat.add_zero, Nat.reduceAdd, List.getD_cons_zero, List.getD_cons_succ, xIf_true, xIf_false, FA_35_0, FA_35_1, FA_66_0, FA_66_1, FA_66_2, FA_82_0, FA_82_1, FA_82_2, FA_86_0, FA_86_1, LEN_29, LEN_32, LEN_47, LEN_48, LEN_79, LEN_116, Bool.not_true]
  intro _
  try simp only [xP_nil, xP_pick, xP_func, xP_not, xP_add, xP_sub, xP_mul, xP_lss, xP_leq, xP_gtr, xP_geq, xP_max2, xP_min2, xR_eql, xR_neq, Nat.zero_add, Nat.add_zero, Nat.reduceAdd, List.getD_cons_zero, List.getD_cons_succ, xIf_true, xIf_false, FA_35_0, FA_35_1, FA_66_0, FA_66_1, FA_66_2, FA_82_0, FA_82_1, FA_82_2, FA_86_0, FA_86_1, LEN_29, LEN_32, LEN_47, LEN_48, LEN_79, LEN_116]
  intro _
  refine (ldN (l := [hdl 68, .pointer (some ⟨w.heap.size, 0, none⟩), .int .u64 150]) AGG_90 hb3'.at).2 ?_
  have hlt := ht.lt
  refine xE_call CF_44 (as_ok hp (ht.kept hk03 (by simp)) hcell (by have := hk13.size; show w.heap.size < _; omega) (by show w.heap.size ≠ t; omega)) ?_
  rintro _ w4 ⟨rfl, hb4, hk4⟩
  exact ⟨rfl, hb4, (hk03.mono (by simp)).then hk4 (by simp)⟩

theorem kind_ok {e : Er} (hp : Er.plain e) {w : World} (hg : Glob w) : Gives Tryd.prog 13 #[erV e] w fun u w' => u = .int .i64 e.kind ∧ Kept [] w w' := by
  refine C_fault_Kind ?_
  unfold S_fault_Kind
  refine xE_alloc Z_27 fun w1 hb1 hk1 hz1 => ?_
  simp only [xP_iface CPE]
  refine xE_call CF_30 (asE_ok hp (hg.kept0 hk1) hb1) ?_
  rintro _ w2 ⟨rfl, hb2, hk2⟩
  try simp only [xP_nil, xP_pick, xP_func, xP_not, xP_add, xP_sub, xP_mul, xP_lss, xP_leq, xP_gtr, xP_geq, xP_max2, xP_min2, xR_eql, xR_neq, Nat.zero_add, Nat.add_zero, Nat.reduceAdd, List.getD_cons_zero, List.getD_cons_succ, xIf_true, xIf_false, FA_35_0, FA_35_1, FA_66_0, FA_66_1, FA_66_2, FA_82_0, FA_82_1, FA_82_2, FA_86_0, FA_86_1, LEN_29, LEN_32, LEN_47, LEN_48, LEN_79, LEN_116]
  refine (ld1 ONE_27 (hb2.cell (o := 0))).2 ?_
  exact ⟨rfl, hk1.then hk2 (by simp)⟩
theorem asNil_ok {t : Value} {w : World} : Gives Tryd.prog 30 #[.nilIface, t] w fun u w' => u = .bool false ∧ w = w' := by
  refine C_errors_As ?_
  unfold S_errors_As
  refine (xR_eqlN IFE).2 ?_
  try simp only [xP_nil, xP_pick, xP_func, xP_not, xP_add, xP_sub, xP_mul, xP_lss, xP_leq, xP_gtr, xP_geq, xP_max2, xP_min2, xR_eql, xR_neq, Nat.zero_add, Nat.add_zero, Nat.reduceAdd, List.getD_cons_zero, List.getD_cons_succ, xIf_true, xIf_false, FA_35_0, FA_35_1, FA_66_0, FA_66_1, FA_66_2, FA_82_0, FA_82_1, FA_82_2, FA_86_0, FA_86_1, LEN_29, LEN_32, LEN_47, LEN_48, LEN_79, LEN_116]
  exact ⟨rfl, rfl⟩
theorem isNil_ok {k : Int} {w : World} : Gives Tryd.prog 31 #[.nilIface, errV k] w fun u w' => u = .bool false ∧ w = w' := by
  refine C_errors_Is ?_
  unfold S_errors_Is
  refine xJoin_one ?_
  refine (xR_eqlN IFE).2 ?_
  try simp only [xP_nil, xP_pick, xP_func, xP_not, xP_add, xP_sub, xP_mul, xP_lss, xP_leq, xP_gtr, xP_geq, xP_max2, xP_min2, xR_eql, xR_neq, Nat.zero_add, Nat.add_zero, Nat.reduceAdd, List.getD_cons_zero, List.getD_cons_succ, xIf_true, xIf_false, FA_35_0, FA_35_1, FA_66_0, FA_66_1, FA_66_2, FA_82_0, FA_82_1, FA_82_2, FA_86_0, FA_86_1, LEN_29, LEN_32, LEN_47, LEN_48, LEN_79, LEN_116]
  intro _
  have : xR Tryd.prog (sEq .eql 24 false .nilIface (errV k)) w (fun v => Ret (fun u w' => u = .bool false ∧ w = w') (.returned v) w) := by
    refine ⟨.bool false, ?_, rfl, rfl⟩
    unfold sEq
    refine run_sB Tryd.prog _ w ?_
    obtain ⟨ms, hu⟩ := ifaceB_spec IFE
    have h : ∀ d : Nat, (Op.equalIn (d + 1) 24 .nilIface (errV k)).run Tryd.prog w = .ok false w := fun d => by
      unfold errV
      simp only [Op.equalIn, Sem.run_bind, run_underlying hu, Result.andThen_ok]
      rfl
    simp only [Sem.run_bind, eqGuard, binOp, errV, Op.equal, Op.maxDepth, Result.andThen_ok, Sem.run_pure]
    have := h 9999
    simp only [errV] at this
    simp [this]
  exact this
theorem kindNil_ok {w : World} : Gives Tryd.prog 13 #[.nilIface] w fun u w' => u = .int .i64 0 ∧ Kept [] w w' := by
  refine C_fault_Kind ?_
  unfold S_fault_Kind
  refine xE_alloc Z_27 fun w1 hb1 hk1 hz1 => ?_
  simp only [xP_iface CPE]
  refine xE_call CF_30 asNil_ok ?_
  rintro _ _ ⟨rfl, rfl⟩
  simp only [xP_nil, xP_pick, xP_func, xP_not, xP_add, xP_sub, xP_mul, xP_lss, xP_leq, xP_gtr, xP_geq, xP_max2, xP_min2, xR_eql, xR_neq, Nat.zero_add, Nat.add_zero, Nat.reduceAdd, List.getD_cons_zero, List.getD_cons_succ, xIf_true, xIf_false, FA_35_0, FA_35_1, FA_66_0, FA_66_1, FA_66_2, FA_82_0, FA_82_1, FA_82_2, FA_86_0, FA_86_1, LEN_29, LEN_32, LEN_47, LEN_48, LEN_79, LEN_116, xP_iface CEN]
  refine xE_call CF_31 (isNil_ok (k := 6)) ?_
  rintro _ _ ⟨rfl, rfl⟩
  try simp only [xP_nil, xP_pick, xP_func, xP_not, xP_add, xP_sub, xP_mul, xP_lss, xP_leq, xP_gtr, xP_geq, xP_max2, xP_min2, xR_eql, xR_neq, Nat.zero_add, Nat.add_zero, Nat.reduceAdd, List.getD_cons_zero, List.getD_cons_succ, xIf_true, xIf_false, FA_35_0, FA_35_1, FA_66_0, FA_66_1, FA_66_2, FA_82_0, FA_82_1, FA_82_2, FA_86_0, FA_86_1, LEN_29, LEN_32, LEN_47, LEN_48, LEN_79, LEN_116]
  exact ⟨rfl, hk1⟩
end Go.Proofs.YtoanmeohlpdjfaaDoor
