import Derived.Test.YtpgfmpjepoedjaaDoorXfFaultQ1
import Derived.Test.YtpgfmpjepoedjaaDoorXB
import Derived.Test.YtpgfmpjepoedjaaDoorXCopy2
namespace Go.Proofs.YtpgfmpjepoedjaaDoor
set_option linter.unusedSimpArgs false
set_option linter.unusedVariables false
set_option maxRecDepth 100000
attribute [local irreducible] Go.X.xE
open Go Go.X Go.Extern Go.RowKit

/-! ### errors.Is -/
def Er.same : Er → Er → Bool
  | .no a, .no b => a == b
  | .loss a b c, .loss a' b' c' => a == a' && (b == b' && c == c')
  | _, _ => false
def Er.bare : Er → Prop
  | .flt _ _ _ => False
  | _ => True
def Er.isIt : Er → Er → Bool
  | .flt _ _ e, t => Er.isIt e t
  | .no k, t => Er.same (.no k) t
  | .loss a b c, t => Er.same (.loss a b c) t || Er.same t (.no 6)
theorem STL : structB Tryd.prog 29 [0, 1, 2] := ⟨by kernel_rfl, by kernel_rfl, by kernel_rfl, by kernel_rfl, by kernel_rfl⟩
theorem CBE : compB Tryd.prog 25 = true := by kernel_rfl
theorem CBL : compB Tryd.prog 29 = true := by kernel_rfl
theorem UEN : Tryd.prog.underlying 25 = some (.int .i64) := by kernel_rfl
theorem ints3 (a b c : Int) : ∀ o, o < (#[Value.int .i64 a, .int .i64 b, .int .i64 c]).size → ∃ n, (#[Value.int .i64 a, .int .i64 b, .int .i64 c])[o]? = some (.int .i64 n) := by
  intro o ho
  have ho : o < 3 := ho
  obtain rfl | rfl | rfl : o = 0 ∨ o = 1 ∨ o = 2 := by omega
  · exact ⟨a, rfl⟩
  · exact ⟨b, rfl⟩
  · exact ⟨c, rfl⟩
theorem offs3 {xs ys : Array Value} (h1 : xs.size = 3) (h2 : ys.size = 3) : ∀ o ∈ [0, 1, 2], o < xs.size ∧ o < ys.size := by
  intro o ho
  simp at ho
  omega
theorem all3 (a b c a' b' c' : Int) : ([0, 1, 2].all fun o => intAt #[Value.int .i64 a, .int .i64 b, .int .i64 c] o == intAt #[Value.int .i64 a', .int .i64 b', .int .i64 c'] o) = (a == a' && (b == b' && c == c')) := by
  simp [intAt]
theorem eqLoss {a b c a' b' c' : Int} {w : World} : (Op.equalIn 10000 23 (lossV a b c) (lossV a' b' c')).run Tryd.prog w = .ok (a == a' && (b == b' && c == c')) w := by
  rw [← all3]
  exact eqII_struct (d := 9997) IFE CBL STL (ints3 a b c) (ints3 a' b' c') (offs3 rfl rfl)
theorem eqLs {a b c a' b' c' : Int} {w : World} {k : Bool} {K : Value → Prop} : xR Tryd.prog (sEq .eql 29 k (.agg #[.int .i64 a, .int .i64 b, .int .i64 c]) (.agg #[.int .i64 a', .int .i64 b', .int .i64 c'])) w K ↔ K (.bool (a == a' && (b == b' && c == c'))) := by
  rw [← all3]
  exact xR_eqlS STL (ints3 a b c) (ints3 a' b' c') (offs3 rfl rfl)
theorem erV_same {e t : Er} (hb : Er.bare t) {w : World} {K : Value → Prop} : xR Tryd.prog (sEq .eql 23 false (erV e) (erV t)) w K ↔ K (.bool (Er.same e t)) := by
  cases t with
  | flt _ _ _ => exact hb.elim
  | no b =>
    cases e with
    | no a => exact xR_eqlII IFE (eqII_int (d := 9998) IFE CBE UEN)
    | loss x y z => exact xR_eqlII IFE (eqII_ne (d := 9999) IFE (by decide))
    | flt op i e => exact xR_eqlII IFE (eqII_ne (d := 9999) IFE (by decide))
  | loss a b c =>
    cases e with
    | no a => exact xR_eqlII IFE (eqII_ne (d := 9999) IFE (by decide))
    | loss x y z => exact xR_eqlII IFE eqLoss
    | flt op i e => exact xR_eqlII IFE (eqII_ne (d := 9999) IFE (by decide))
theorem lossIs_ok {a b c : Int} {t : Er} {w : World} : Gives Tryd.prog 45 #[.agg #[.int .i64 a, .int .i64 b, .int .i64 c], erV t] w fun u w' => u = .bool (Er.same t (.no 6)) ∧ Kept [] w w' := by
  refine C_api_Loss_Is ?_
  unfold S_api_Loss_Is
  refine xE_box fun w1 hb1 hk hz => ?_
  simp only [xP_iface CEN]
  refine (erV_same (t := .no 6) trivial).2 ?_
  exact ⟨rfl, hk⟩
theorem sLossIs {a b c : Int} {t : Er} {w : World} {K : Value → World → Prop} (k : ∀ w', Kept [] w w' → K (.bool (Er.same t (.no 6))) w') : xE Tryd.prog (sInvoke "Is" #[lossV a b c, erV t]) w K :=
  xE_invoke2 (t := 29) (v := .agg #[.int .i64 a, .int .i64 b, .int .i64 c]) (r := .agg #[.int .i64 a, .int .i64 b, .int .i64 c]) (a := erV t) (f := 45) (mIs _ _ _ w) (xE_call CF_45 lossIs_ok (fun u w' ⟨h2, h3⟩ => by subst h2; exact k w' h3))
theorem isIt_same {e t : Er} (hs : Er.same e t = true) : Er.isIt e t = true := by
  cases e with
  | no k => exact hs
  | loss a b c => simp [Er.isIt, hs]
  | flt op i e => cases t <;> cases hs
theorem is1_ok {e t : Er} (hb : Er.bare t) {w : World} : Gives Tryd.prog 19 #[erV e, erV t, .bool true] w fun u w' => u = .bool (Er.isIt e t) ∧ Kept [] w w' := by
  refine C_errors_is ?_
  unfold S_errors_is
  refine xLoop_of (fun vs w' => ∃ e' : Er, vs = [erV e'] ∧ Er.isIt e' t = Er.isIt e t ∧ Kept [] w w') (fun vs _ => depthM vs) ⟨e, rfl, rfl, Kept.refl _ _⟩ ?_
  rintro _ _ w2 ⟨e', rfl, he, hk⟩
  refine xJoin_of (fun ls w' => ls = [.bool (Er.same e' t)] ∧ w2 = w') ?_ ?_
  · simp only [List.getD_cons_zero, xIf_true]
    refine (erV_same hb).2 ?_
    exact ⟨by trivial, by trivial⟩
  rintro _ _ _ ⟨rfl, rfl⟩
  simp only [List.getD_cons_zero]
  cases hs : Er.same e' t with
  | true =>
    simp only [xIf_true]
    exact ⟨by rw [← he, isIt_same hs], hk⟩
  | false =>
    simp only [xIf_false]
    cases e' with
    | no k =>
      refine (xP_assert (noIsE _)).2 ?_
      simp only [xP_ex0, xP_ex1]
      refine xJoin_one ?_
      simp only [xP_nil, xP_pick, xP_func, xP_not, xP_add, xP_sub, xP_mul, xP_lss, xP_leq, xP_gtr, xP_geq, xP_max2, xP_min2, xR_eql, xR_neq, Nat.zero_add, Nat.add_zero, Nat.reduceAdd, List.getD_cons_zero, List.getD_cons_succ, xIf_true, xIf_false, FA_40_0, FA_40_1, FA_47_0, FA_47_1, FA_47_2, LEN_34, LEN_38, LEN_48, LEN_53, LEN_78]
      intro _
      refine (xP_assert (noUnE _)).2 ?_
      simp only [xP_ex0, xP_ex1, xP_nil, xP_pick, xP_func, xP_not, xP_add, xP_sub, xP_mul, xP_lss, xP_leq, xP_gtr, xP_geq, xP_max2, xP_min2, xR_eql, xR_neq, Nat.zero_add, Nat.add_zero, Nat.reduceAdd, List.getD_cons_zero, List.getD_cons_succ, xIf_true, xIf_false, FA_40_0, FA_40_1, FA_47_0, FA_47_1, FA_47_2, LEN_34, LEN_38, LEN_48, LEN_53, LEN_78]
      refine (xP_assert (noUnsE _)).2 ?_
      simp only [xP_ex0, xP_ex1, xP_nil, xP_pick, xP_func, xP_not, xP_add, xP_sub, xP_mul, xP_lss, xP_leq, xP_gtr, xP_geq, xP_max2, xP_min2, xR_eql, xR_neq, Nat.zero_add, Nat.add_zero, Nat.reduceAdd, List.getD_cons_zero, List.getD_cons_succ, xIf_true, xIf_false, FA_40_0, FA_40_1, FA_47_0, FA_47_1, FA_47_2, LEN_34, LEN_38, LEN_48, LEN_53, LEN_78]
      exact ⟨by rw [← he, Er.isIt, hs], hk⟩
    | loss a b c =>
      refine (xP_assert (isL _)).2 ?_
      simp only [xP_ex0, xP_ex1]
      refine xJoin_of (fun ls w' => ls = [.bool (Er.same t (.no 6))] ∧ Kept [] w w') ?_ ?_
      · simp only [xIf_true]
        exact sLossIs fun w3 hk3 => ⟨rfl, hk.then hk3 (by simp)⟩
      rintro _ _ w3 ⟨rfl, hk3⟩
      simp only [List.getD_cons_zero]
      cases h6 : Er.same t (.no 6) with
      | true =>
        simp only [xIf_true]
        exact ⟨by rw [← he, Er.isIt, h6, Bool.or_true], hk3⟩
      | false =>
        simp only [xIf_false]
        refine (xP_assert (noUnL _)).2 ?_
        simp only [xP_ex0, xP_ex1, xP_nil, xP_pick, xP_func, xP_not, xP_add, xP_sub, xP_mul, xP_lss, xP_leq, xP_gtr, xP_geq, xP_max2, xP_min2, xR_eql, xR_neq, Nat.zero_add, Nat.add_zero, Nat.reduceAdd, List.getD_cons_zero, List.getD_cons_succ, xIf_true, xIf_false, FA_40_0, FA_40_1, FA_47_0, FA_47_1, FA_47_2, LEN_34, LEN_38, LEN_48, LEN_53, LEN_78]
        refine (xP_assert (noUnsL _)).2 ?_
        simp only [xP_ex0, xP_ex1, xP_nil, xP_pick, xP_func, xP_not, xP_add, xP_sub, xP_mul, xP_lss, xP_leq, xP_gtr, xP_geq, xP_max2, xP_min2, xR_eql, xR_neq, Nat.zero_add, Nat.add_zero, Nat.reduceAdd, List.getD_cons_zero, List.getD_cons_succ, xIf_true, xIf_false, FA_40_0, FA_40_1, FA_47_0, FA_47_1, FA_47_2, LEN_34, LEN_38, LEN_48, LEN_53, LEN_78]
        exact ⟨by rw [← he, Er.isIt, hs, h6]; rfl, hk3⟩
    | flt op i e2 =>
      refine (xP_assert (noIsF _)).2 ?_
      simp only [xP_ex0, xP_ex1]
      refine xJoin_one ?_
      simp only [xP_nil, xP_pick, xP_func, xP_not, xP_add, xP_sub, xP_mul, xP_lss, xP_leq, xP_gtr, xP_geq, xP_max2, xP_min2, xR_eql, xR_neq, Nat.zero_add, Nat.add_zero, Nat.reduceAdd, List.getD_cons_zero, List.getD_cons_succ, xIf_true, xIf_false, FA_40_0, FA_40_1, FA_47_0, FA_47_1, FA_47_2, LEN_34, LEN_38, LEN_48, LEN_53, LEN_78]
      intro _
      refine (xP_assert (unF _)).2 ?_
      simp only [xP_ex0, xP_ex1, xP_nil, xP_pick, xP_func, xP_not, xP_add, xP_sub, xP_mul, xP_lss, xP_leq, xP_gtr, xP_geq, xP_max2, xP_min2, xR_eql, xR_neq, Nat.zero_add, Nat.add_zero, Nat.reduceAdd, List.getD_cons_zero, List.getD_cons_succ, xIf_true, xIf_false, FA_40_0, FA_40_1, FA_47_0, FA_47_1, FA_47_2, LEN_34, LEN_38, LEN_48, LEN_53, LEN_78]
      refine sUnwrapF (erV_one e2) fun w3 hk3 => ?_
      refine erV_eql.2 ?_
      simp only [xP_nil, xP_pick, xP_func, xP_not, xP_add, xP_sub, xP_mul, xP_lss, xP_leq, xP_gtr, xP_geq, xP_max2, xP_min2, xR_eql, xR_neq, Nat.zero_add, Nat.add_zero, Nat.reduceAdd, List.getD_cons_zero, List.getD_cons_succ, xIf_true, xIf_false, FA_40_0, FA_40_1, FA_47_0, FA_47_1, FA_47_2, LEN_34, LEN_38, LEN_48, LEN_53, LEN_78]
      exact ⟨⟨e2, rfl, he, hk.then hk3 (by simp)⟩, depth_lt op i e2⟩
theorem isq_ok {e t : Er} (hb : Er.bare t) {w : World} : Gives Tryd.prog 15 #[erV e, erV t] w fun u w' => u = .bool (Er.isIt e t) ∧ Kept [] w w' := by
  refine C_errors_Is ?_
  unfold S_errors_Is
  refine xJoin_of (fun ls w' => ls = [.bool false] ∧ w = w') ?_ ?_
  · refine erV_eql.2 ?_
    simp only [xIf_false]
    refine erV_eql.2 ?_
    exact ⟨by trivial, by trivial⟩
  rintro _ _ _ ⟨rfl, rfl⟩
  simp only [List.getD_cons_zero, xIf_false]
  have key : ∀ {T : TypeId}, (∀ K : Value → World → Prop, K (rtV T) w → xE Tryd.prog (sCall 18 #[erV t]) w K) → (∀ w : World, (ReflectliteType.method (fun t => do Rtype.noPackHeld "Comparable" t; pure (.bool (← typeInfo t).comparable)) #[.agg #[hdl T]]).run Tryd.prog w = .ok (.bool true) w) →
      xE Tryd.prog (sCall 18 #[erV t]) w fun v w' => xE Tryd.prog (sInvoke "Comparable" #[v]) w' fun u w2 => xE Tryd.prog (sCall 19 #[erV e, erV t, u]) w2 fun r w3 => Ret (fun u w' => u = .bool (Er.isIt e t) ∧ Kept [] w w') (.returned r) w3 := by
    intro T h1 h2
    refine h1 _ ?_
    refine sComparable (h2 w) ?_
    refine xE_call CF_19 (is1_ok hb) ?_
    rintro _ w3 ⟨rfl, hk⟩
    exact ⟨rfl, hk⟩
  cases t with
  | flt _ _ _ => exact hb.elim
  | no k => exact key (fun _ h => sTypeOfE h) cmpE
  | loss a b c => exact key (fun _ h => sTypeOfL h) cmpL
/-! ### Kind, Lost, Path, First -/
theorem kindq_ok {e : Er} {w : World} (hg : Glob w) : Gives Tryd.prog 10 #[erV e] w fun u w' => u = .int .i64 ((Er.errno e).getD (if Er.isIt e (.no 6) then 6 else 0)) ∧ Kept [] w w' := by
  refine C_fault_Kind ?_
  unfold S_fault_Kind
  refine xE_alloc Z_25 fun w1 hb1 hk1 hz1 => ?_
  simp only [xP_iface CPE]
  refine xE_call CF_17 (asEq (e := e) (hg.kept0 hk1) hb1) ?_
  rintro u w2 ⟨hk2, hm⟩
  have hk02 : Kept [] w w2 := hk1.then hk2 (by simp)
  cases hn : Er.errno e with
  | some k =>
    rw [hn] at hm
    obtain ⟨rfl, hb2⟩ := hm
    try simp only [xP_nil, xP_pick, xP_func, xP_not, xP_add, xP_sub, xP_mul, xP_lss, xP_leq, xP_gtr, xP_geq, xP_max2, xP_min2, xR_eql, xR_neq, Nat.zero_add, Nat.add_zero, Nat.reduceAdd, List.getD_cons_zero, List.getD_cons_succ, xIf_true, xIf_false, FA_40_0, FA_40_1, FA_47_0, FA_47_1, FA_47_2, LEN_34, LEN_38, LEN_48, LEN_53, LEN_78]
    refine (ld1 ONE_25 (hb2.cell (o := 0))).2 ?_
    exact ⟨rfl, hk02⟩
  | none =>
    rw [hn] at hm
    obtain ⟨rfl, hb2⟩ := hm
    simp only [xP_nil, xP_pick, xP_func, xP_not, xP_add, xP_sub, xP_mul, xP_lss, xP_leq, xP_gtr, xP_geq, xP_max2, xP_min2, xR_eql, xR_neq, Nat.zero_add, Nat.add_zero, Nat.reduceAdd, List.getD_cons_zero, List.getD_cons_succ, xIf_true, xIf_false, FA_40_0, FA_40_1, FA_47_0, FA_47_1, FA_47_2, LEN_34, LEN_38, LEN_48, LEN_53, LEN_78, xP_iface CEN]
    refine xE_call CF_15 (isq_ok (e := e) (t := .no 6) trivial) ?_
    rintro _ w3 ⟨rfl, hk3⟩
    cases h6 : Er.isIt e (.no 6) with
    | true => try simp only [xP_nil, xP_pick, xP_func, xP_not, xP_add, xP_sub, xP_mul, xP_lss, xP_leq, xP_gtr, xP_geq, xP_max2, xP_min2, xR_eql, xR_neq, Nat.zero_add, Nat.add_zero, Nat.reduceAdd, List.getD_cons_zero, List.getD_cons_succ, xIf_true, xIf_false, FA_40_0, FA_40_1, FA_47_0, FA_47_1, FA_47_2, LEN_34, LEN_38, LEN_48, LEN_53, LEN_78]; exact ⟨rfl, hk02.then hk3 (by simp)⟩
    | false => try simp only [xP_nil, xP_pick, xP_func, xP_not, xP_add, xP_sub, xP_mul, xP_lss, xP_leq, xP_gtr, xP_geq, xP_max2, xP_min2, xR_eql, xR_neq, Nat.zero_add, Nat.add_zero, Nat.reduceAdd, List.getD_cons_zero, List.getD_cons_succ, xIf_true, xIf_false, FA_40_0, FA_40_1, FA_47_0, FA_47_1, FA_47_2, LEN_34, LEN_38, LEN_48, LEN_53, LEN_78]; exact ⟨rfl, hk02.then hk3 (by simp)⟩
theorem lost_ok {e : Er} {w : World} (hg : Glob w) : Gives Tryd.prog 9 #[erV e] w fun u w' => u = .tuple #[vL ((Er.lost e).getD (0, 0, 0)), .bool (Er.lost e).isSome] ∧ Kept [] w w' := by
  refine C_fault_Lost ?_
  unfold S_fault_Lost
  refine xE_alloc Z_29 fun w1 hb1 hk1 hz1 => ?_
  have hb1 : Blk w1 w.heap.size 29 (encL (0, 0, 0)) := hb1
  refine xE_alloc Z_29 fun w2 hb2 hk2 hz2 => ?_
  have hb2 : Blk w2 w1.heap.size 29 (encL (0, 0, 0)) := hb2
  simp only [xP_iface CPL]
  refine xE_call CF_17 (asLq (e := e) ((hg.kept0 hk1).kept0 hk2) rfl hb2) ?_
  rintro u w3 ⟨hk3, hm⟩
  have hk03 : Kept [] w w3 := (hk1.then hk2 (by simp)).then hk3 (by simp; omega)
  have hb13 : Blk w3 w.heap.size 29 (encL (0, 0, 0)) := (hb1.kept hk2 (by simp)).kept hk3 (by simp; omega)
  cases hn : Er.lost e with
  | some x =>
    rw [hn] at hm
    obtain ⟨rfl, hb3⟩ := hm
    simp only [xP_nil, xP_pick, xP_func, xP_not, xP_add, xP_sub, xP_mul, xP_lss, xP_leq, xP_gtr, xP_geq, xP_max2, xP_min2, xR_eql, xR_neq, Nat.zero_add, Nat.add_zero, Nat.reduceAdd, List.getD_cons_zero, List.getD_cons_succ, xIf_true, xIf_false, FA_40_0, FA_40_1, FA_47_0, FA_47_1, FA_47_2, LEN_34, LEN_38, LEN_48, LEN_53, LEN_78, Bool.not_true]
    refine (ldN (l := encL x) AGG_29 hb3.at).2 ?_
    refine xE_storeN (v := vL x) (l1 := []) (l2 := encL (0, 0, 0)) (l3 := []) SZ_29 hb13 rfl rfl rfl (encL_one x) fun w4 hb4 hk4 hz4 => ?_
    have hb4' : Blk w4 w.heap.size 29 (encL x) := by simpa [Value.cells, vL] using hb4
    refine (ldN (l := encL x) AGG_29 hb4'.at).2 ?_
    exact ⟨rfl, hk03.then hk4 (by simp)⟩
  | none =>
    rw [hn] at hm
    obtain ⟨rfl, hb3⟩ := hm
    simp only [xP_nil, xP_pick, xP_func, xP_not, xP_add, xP_sub, xP_mul, xP_lss, xP_leq, xP_gtr, xP_geq, xP_max2, xP_min2, xR_eql, xR_neq, Nat.zero_add, Nat.add_zero, Nat.reduceAdd, List.getD_cons_zero, List.getD_cons_succ, xIf_true, xIf_false, FA_40_0, FA_40_1, FA_47_0, FA_47_1, FA_47_2, LEN_34, LEN_38, LEN_48, LEN_53, LEN_78, Bool.not_false]
    refine (xP_build (cells := #[.int .i64 0, .int .i64 0, .int .i64 0]) (by kernel_rfl)).2 ?_
    refine xE_storeN (v := vL (0, 0, 0)) (l1 := []) (l2 := encL (0, 0, 0)) (l3 := []) SZ_29 hb13 rfl rfl rfl (encL_one _) fun w4 hb4 hk4 hz4 => ?_
    have hb4' : Blk w4 w.heap.size 29 (encL (0, 0, 0)) := by simpa [Value.cells, vL] using hb4
    refine (ldN (l := encL (0, 0, 0)) AGG_29 hb4'.at).2 ?_
    exact ⟨rfl, hk03.then hk4 (by simp)⟩
theorem lostNil_ok {w : World} : Gives Tryd.prog 9 #[.nilIface] w fun u w' => u = .tuple #[vL (0, 0, 0), .bool false] ∧ Kept [] w w' := by
  refine C_fault_Lost ?_
  unfold S_fault_Lost
  refine xE_alloc Z_29 fun w1 hb1 hk1 hz1 => ?_
  have hb1 : Blk w1 w.heap.size 29 (encL (0, 0, 0)) := hb1
  refine xE_alloc Z_29 fun w2 hb2 hk2 hz2 => ?_
  simp only [xP_iface CPL]
  refine xE_call CF_17 asNil_ok ?_
  rintro _ _ ⟨rfl, rfl⟩
  have hk02 : Kept [] w w2 := hk1.then hk2 (by simp)
  simp only [xP_nil, xP_pick, xP_func, xP_not, xP_add, xP_sub, xP_mul, xP_lss, xP_leq, xP_gtr, xP_geq, xP_max2, xP_min2, xR_eql, xR_neq, Nat.zero_add, Nat.add_zero, Nat.reduceAdd, List.getD_cons_zero, List.getD_cons_succ, xIf_true, xIf_false, FA_40_0, FA_40_1, FA_47_0, FA_47_1, FA_47_2, LEN_34, LEN_38, LEN_48, LEN_53, LEN_78, Bool.not_false]
  refine (xP_build (cells := #[.int .i64 0, .int .i64 0, .int .i64 0]) (by kernel_rfl)).2 ?_
  refine xE_storeN (v := vL (0, 0, 0)) (l1 := []) (l2 := encL (0, 0, 0)) (l3 := []) SZ_29 (hb1.kept hk2 (by simp)) rfl rfl rfl (encL_one _) fun w4 hb4 hk4 hz4 => ?_
  have hb4' : Blk w4 w.heap.size 29 (encL (0, 0, 0)) := by simpa [Value.cells, vL] using hb4
  refine (ldN (l := encL (0, 0, 0)) AGG_29 hb4'.at).2 ?_
  exact ⟨rfl, hk02.then hk4 (by simp)⟩
theorem rowE : RowB Tryd.prog 53 25 1 encI (fun k : Int => Value.int .i64 k) := RowB.one SL_53 SZ_25 ONE_25
def firstP (e : Er) (ks : List Int) : Int := if ks.findIdx (fun k => Er.isIt e (.no k)) < ks.length then (ks.findIdx (fun k => Er.isIt e (.no k)) : Nat) else -1
theorem first_ok {e : Er} {ks : List Int} {v : Value} {w : World} (hv : SlT w encI v ks) (hl : ks.length ≤ 1000) : Gives Tryd.prog 13 #[erV e, v] w fun u w' => u = .int .i64 (firstP e ks) ∧ Kept [] w w' := by
  refine C_fault_First ?_
  unfold S_fault_First
  have hv0 := hv
  obtain ⟨a, c, rfl, _, _⟩ := hv
  simp only [xP_nil, xP_pick, xP_func, xP_not, xP_add, xP_sub, xP_mul, xP_lss, xP_leq, xP_gtr, xP_geq, xP_max2, xP_min2, xR_eql, xR_neq, Nat.zero_add, Nat.add_zero, Nat.reduceAdd, List.getD_cons_zero, List.getD_cons_succ, xIf_true, xIf_false, FA_40_0, FA_40_1, FA_47_0, FA_47_1, FA_47_2, LEN_34, LEN_38, LEN_48, LEN_53, LEN_78]
  refine xLoop_of (fun ls w' => ∃ i : Nat, ls = [.int .i64 i] ∧ i ≤ ks.length ∧ (∀ j, (hj : j < ks.length) → j < i → Er.isIt e (.no ks[j]) = false) ∧ Kept [] w w') (fun ls _ => match ls with | [.int _ i] => ks.length - i.toNat | _ => 0) ⟨0, rfl, by omega, fun j _ h => by omega, Kept.refl _ _⟩ ?_
  rintro _ _ w1 ⟨i, rfl, hi, hb, hk⟩
  simp only [xP_nil, xP_pick, xP_func, xP_not, xP_add, xP_sub, xP_mul, xP_lss, xP_leq, xP_gtr, xP_geq, xP_max2, xP_min2, xR_eql, xR_neq, Nat.zero_add, Nat.add_zero, Nat.reduceAdd, List.getD_cons_zero, List.getD_cons_succ, xIf_true, xIf_false, FA_40_0, FA_40_1, FA_47_0, FA_47_1, FA_47_2, LEN_34, LEN_38, LEN_48, LEN_53, LEN_78, xIf_dec]
  refine ⟨fun hlt => ?_, fun hge => ?_⟩
  · have hi1 : i < ks.length := by omega
    refine (rowE.get hv0 hk hi1).2 ?_
    simp only [xP_iface CEN]
    refine xE_call CF_15 (isq_ok (e := e) (t := .no ks[i]) trivial) ?_
    rintro _ w2 ⟨rfl, hk2⟩
    have hk02 := hk.then hk2 (by simp)
    cases hs : Er.isIt e (.no ks[i]) with
    | true =>
      simp only [xIf_true]
      have hf : ks.findIdx (fun k => Er.isIt e (.no k)) = i := (List.findIdx_eq hi1).2 ⟨hs, fun j hj => hb j (by omega) hj⟩
      refine ⟨?_, hk02⟩
      unfold firstP
      rw [hf, if_pos hi1]
    | false =>
      simp only [xIf_false, xP_nil, xP_pick, xP_func, xP_not, xP_add, xP_sub, xP_mul, xP_lss, xP_leq, xP_gtr, xP_geq, xP_max2, xP_min2, xR_eql, xR_neq, Nat.zero_add, Nat.add_zero, Nat.reduceAdd, List.getD_cons_zero, List.getD_cons_succ, xIf_true, xIf_false, FA_40_0, FA_40_1, FA_47_0, FA_47_1, FA_47_2, LEN_34, LEN_38, LEN_48, LEN_53, LEN_78]
      rw [wrap64 (by omega) (by omega)]
      refine ⟨⟨i + 1, rfl, by omega, fun j hj hji => ?_, hk02⟩, by omega⟩
      by_cases hji2 : j = i
      · subst hji2; exact hs
      · exact hb j hj (by omega)
  · obtain rfl : i = ks.length := by omega
    have hf : ks.findIdx (fun k => Er.isIt e (.no k)) = ks.length := List.findIdx_eq_length_of_false fun q hq => by
      obtain ⟨j, hj, rfl⟩ := List.getElem_of_mem hq
      exact hb j hj hj
    refine ⟨?_, hk⟩
    unfold firstP
    rw [hf, if_neg (by omega)]
theorem firstNil_ok {ks : List Int} {v : Value} {w : World} (hv : SlT w encI v ks) (hl : ks.length ≤ 1000) : Gives Tryd.prog 13 #[.nilIface, v] w fun u w' => u = .int .i64 (-1) ∧ Kept [] w w' := by
  refine C_fault_First ?_
  unfold S_fault_First
  have hv0 := hv
  obtain ⟨a, c, rfl, _, _⟩ := hv
  simp only [xP_nil, xP_pick, xP_func, xP_not, xP_add, xP_sub, xP_mul, xP_lss, xP_leq, xP_gtr, xP_geq, xP_max2, xP_min2, xR_eql, xR_neq, Nat.zero_add, Nat.add_zero, Nat.reduceAdd, List.getD_cons_zero, List.getD_cons_succ, xIf_true, xIf_false, FA_40_0, FA_40_1, FA_47_0, FA_47_1, FA_47_2, LEN_34, LEN_38, LEN_48, LEN_53, LEN_78]
  refine xLoop_of (fun ls w' => ∃ i : Nat, ls = [.int .i64 i] ∧ i ≤ ks.length ∧ w = w') (fun ls _ => match ls with | [.int _ i] => ks.length - i.toNat | _ => 0) ⟨0, rfl, by omega, rfl⟩ ?_
  rintro _ _ _ ⟨i, rfl, hi, rfl⟩
  simp only [xP_nil, xP_pick, xP_func, xP_not, xP_add, xP_sub, xP_mul, xP_lss, xP_leq, xP_gtr, xP_geq, xP_max2, xP_min2, xR_eql, xR_neq, Nat.zero_add, Nat.add_zero, Nat.reduceAdd, List.getD_cons_zero, List.getD_cons_succ, xIf_true, xIf_false, FA_40_0, FA_40_1, FA_47_0, FA_47_1, FA_47_2, LEN_34, LEN_38, LEN_48, LEN_53, LEN_78, xIf_dec]
  refine ⟨fun hlt => ?_, fun hge => ⟨by trivial, Kept.refl _ _⟩⟩
  have hi1 : i < ks.length := by omega
  refine (rowE.get hv0 (Kept.refl _ _) hi1).2 ?_
  simp only [xP_iface CEN]
  refine xE_call CF_15 (isNil_ok (k := ks[i])) ?_
  rintro _ _ ⟨rfl, rfl⟩
  simp only [xIf_false, xP_nil, xP_pick, xP_func, xP_not, xP_add, xP_sub, xP_mul, xP_lss, xP_leq, xP_gtr, xP_geq, xP_max2, xP_min2, xR_eql, xR_neq, Nat.zero_add, Nat.add_zero, Nat.reduceAdd, List.getD_cons_zero, List.getD_cons_succ, xIf_true, xIf_false, FA_40_0, FA_40_1, FA_47_0, FA_47_1, FA_47_2, LEN_34, LEN_38, LEN_48, LEN_53, LEN_78]
  rw [wrap64 (by omega) (by omega)]
  exact ⟨⟨i + 1, rfl, by omega, by trivial⟩, by omega⟩
theorem path_ok {e : Er} (hp : Er.plain e) (hn : (Er.faults e).length ≤ 1000) {w : World} (hg : Glob w) :
    Gives Tryd.prog 12 #[erV e] w fun u w' => SlT w' encS u ((Er.faults e).map (·.1)) ∧ Kept [] w w' := by
  refine C_fault_Path ?_
  unfold S_fault_Path
  refine xE_call CF_16 (faults_ok hp hn hg) ?_
  rintro u w1 ⟨hsl, hk1⟩
  generalize Er.faults e = L at *
  have hsl0 := hsl
  obtain ⟨a, c, rfl, _, _⟩ := hsl
  simp only [xP_nil, xP_pick, xP_func, xP_not, xP_add, xP_sub, xP_mul, xP_lss, xP_leq, xP_gtr, xP_geq, xP_max2, xP_min2, xR_eql, xR_neq, Nat.zero_add, Nat.add_zero, Nat.reduceAdd, List.getD_cons_zero, List.getD_cons_succ, xIf_true, xIf_false, FA_40_0, FA_40_1, FA_47_0, FA_47_1, FA_47_2, LEN_34, LEN_38, LEN_48, LEN_53, LEN_78]
  refine xLoop_of (fun ls w' => ∃ (i : Nat) (o : Value) (F : List Nat), ls = [o, .int .i64 i] ∧ i ≤ L.length ∧ Own w' 9 1 o ((L.take i).map (·.1)).length (((L.take i).map (·.1)).flatMap encS) F ∧ (∀ g ∈ F, w1.heap.size ≤ g) ∧ Kept [] w1 w')
    (fun ls _ => match ls with | [_, .int _ i] => L.length - i.toNat | _ => 0) ⟨0, _, [], rfl, by omega, own_nil _ _ _, by simp, Kept.refl _ _⟩ ?_
  rintro _ _ w2 ⟨i, o, F, rfl, hi, ho, hF, hk2⟩
  simp only [xP_nil, xP_pick, xP_func, xP_not, xP_add, xP_sub, xP_mul, xP_lss, xP_leq, xP_gtr, xP_geq, xP_max2, xP_min2, xR_eql, xR_neq, Nat.zero_add, Nat.add_zero, Nat.reduceAdd, List.getD_cons_zero, List.getD_cons_succ, xIf_true, xIf_false, FA_40_0, FA_40_1, FA_47_0, FA_47_1, FA_47_2, LEN_34, LEN_38, LEN_48, LEN_53, LEN_78, xIf_dec]
  refine ⟨fun hlt => ?_, fun hge => ?_⟩
  · have hi1 : i < L.length := by omega
    refine (rowFl.get hsl0 hk2 hi1).2 ?_
    refine xE_alloc Z_47 fun w3 hb3 hk3 hz3 => ?_
    refine xE_storeN (v := vFl L[i]) (l1 := []) (l2 := [.string ⟨#[]⟩, .int .i64 0, .nilIface]) (l3 := []) SZ_47 hb3 rfl rfl rfl (encFl_one L[i]) fun w4 hb4 hk4 hz4 => ?_
    have hb4' : Blk w4 w2.heap.size 47 (encFl L[i]) := by simpa [vFl, Value.cells] using hb4
    try simp only [xP_nil, xP_pick, xP_func, xP_not, xP_add, xP_sub, xP_mul, xP_lss, xP_leq, xP_gtr, xP_geq, xP_max2, xP_min2, xR_eql, xR_neq, Nat.zero_add, Nat.add_zero, Nat.reduceAdd, List.getD_cons_zero, List.getD_cons_succ, xIf_true, xIf_false, FA_40_0, FA_40_1, FA_47_0, FA_47_1, FA_47_2, LEN_34, LEN_38, LEN_48, LEN_53, LEN_78]
    refine (ld1 ONE_9 (v := .string L[i].1) (hb4'.cell (o := 0))).2 ?_
    have hk24 : Kept [] w2 w4 := hk3.then hk4 (by simp)
    refine xE_buildSlice EL_34 [.string L[i].1] rfl rfl (by simp [Value.cells]) (by omega) (by omega) fun w5 hb5 hk5 hz5 => ?_
    have hat : At w5 w4.heap.size 0 ([L[i].1].flatMap encS) := by
      have := hb5.at
      simpa [Value.cells, encS] using this
    have hk25 := hk24.then hk5 (by simp)
    have hlen : ((L.take i).map (·.1)).length = i := by rw [List.length_map, List.length_take]; omega
    refine xE_append (m := 1) EL_34 (ho.kept hk25 (by simp)) hat (by rw [flat_len encS_len]; rfl) (by intro u hu; simp at hu; exact encS_one _ u hu) (by omega) (by unfold maxLen; omega) (by omega) fun o' w6 F' ho' hk6 hF' _ => ?_
    try simp only [xP_nil, xP_pick, xP_func, xP_not, xP_add, xP_sub, xP_mul, xP_lss, xP_leq, xP_gtr, xP_geq, xP_max2, xP_min2, xR_eql, xR_neq, Nat.zero_add, Nat.add_zero, Nat.reduceAdd, List.getD_cons_zero, List.getD_cons_succ, xIf_true, xIf_false, FA_40_0, FA_40_1, FA_47_0, FA_47_1, FA_47_2, LEN_34, LEN_38, LEN_48, LEN_53, LEN_78]
    rw [wrap64 (by omega) (by omega)]
    have hz2 := hk2.size
    have hz25 := hk25.size
    have e1 : L.take (i + 1) = L.take i ++ [L[i]] := by rw [List.take_add_one, List.getElem?_eq_getElem hi1]; rfl
    refine ⟨⟨i + 1, o', F', rfl, by omega, ?_, fun g hg => (hF' g hg).elim (hF g) (fun h => by omega), (hk2.then hk25 (by simp)).then hk6 (fun g hg => .inr (hF g hg))⟩, by omega⟩
    rw [e1, List.map_append, List.flatMap_append, List.length_append]
    exact ho'
  · obtain rfl : i = L.length := by omega
    rw [List.take_length] at ho
    exact ⟨Own.slT (sz := 1) ho encS_len (by omega), hk1.then hk2 (by simp)⟩
theorem pathNil_ok {w : World} : Gives Tryd.prog 12 #[.nilIface] w fun u w' => u = .slice none 0 0 ∧ Kept [] w w' := by
  refine C_fault_Path ?_
  unfold S_fault_Path
  refine xE_call CF_16 faultsNil_ok ?_
  rintro _ w1 ⟨rfl, hk1⟩
  simp only [xP_nil, xP_pick, xP_func, xP_not, xP_add, xP_sub, xP_mul, xP_lss, xP_leq, xP_gtr, xP_geq, xP_max2, xP_min2, xR_eql, xR_neq, Nat.zero_add, Nat.add_zero, Nat.reduceAdd, List.getD_cons_zero, List.getD_cons_succ, xIf_true, xIf_false, FA_40_0, FA_40_1, FA_47_0, FA_47_1, FA_47_2, LEN_34, LEN_38, LEN_48, LEN_53, LEN_78]
  refine xLoop_of (fun ls w' => ls = [.slice none 0 0, .int .i64 0] ∧ w1 = w') (fun _ _ => 0) ⟨rfl, rfl⟩ ?_
  rintro _ _ _ ⟨rfl, rfl⟩
  simp only [xP_nil, xP_pick, xP_func, xP_not, xP_add, xP_sub, xP_mul, xP_lss, xP_leq, xP_gtr, xP_geq, xP_max2, xP_min2, xR_eql, xR_neq, Nat.zero_add, Nat.add_zero, Nat.reduceAdd, List.getD_cons_zero, List.getD_cons_succ, xIf_true, xIf_false, FA_40_0, FA_40_1, FA_47_0, FA_47_1, FA_47_2, LEN_34, LEN_38, LEN_48, LEN_53, LEN_78, xIf_dec]
  exact ⟨fun h => absurd h (by decide), fun _ => ⟨by trivial, hk1⟩⟩
theorem rowSt : RowB Tryd.prog 34 9 1 encS (fun s : ByteArray => Value.string s) := RowB.one SL_34 SZ_9 ONE_9
theorem sameSq {xs ys : List ByteArray} {a b : Value} {w : World} (ha : SlT w encS a xs) (hb : SlT w encS b ys) (hl : xs.length ≤ 9223372036854775806) :
    Gives Tryd.prog 11 #[a, b] w fun u w' => u = .bool (decide (xs = ys)) ∧ Kept [] w w' := by
  refine C_stavebook_Same_string ?_
  exact xSame rowSt ha hb hl (fun x y w' K => xR_neqStr) (fun w' hk => ⟨rfl, hk⟩)
end Go.Proofs.YtpgfmpjepoedjaaDoor
