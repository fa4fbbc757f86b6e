import Derived.Test.YtpgfmpjepoedjaaDoorXfFaultQ3
namespace Go.Proofs.YtpgfmpjepoedjaaDoor
set_option linter.unusedSimpArgs false
set_option linter.unusedVariables false
set_option maxRecDepth 100000
attribute [local irreducible] Go.X.xE
open Go Go.X Go.Extern Go.RowKit

/-! ## FaultNone, FaultInner, FaultLoss -/
def encSp (x : ByteArray × Int) : List Value := [.string x.1, .int .i64 x.2]
theorem encSp_len (x : ByteArray × Int) : (encSp x).length = 2 := rfl
theorem rowSp : RowB Tryd.prog 38 40 2 encSp (fun x => .agg (encSp x).toArray) := RowB.agg SL_38 SZ_40 encSp_len (by kernel_rfl)
theorem FSp0 : fieldB Tryd.prog 40 0 0 = true := by kernel_rfl
theorem FSp1 : fieldB Tryd.prog 40 1 1 = true := by kernel_rfl
theorem withinI {n lo hi : Int} {w : World} {K : Value → World → Prop} (h0 : 0 ≤ lo) (h1 : lo ≤ hi) (h2 : hi ≤ 1000000) (k : ∀ m : Int, lo ≤ m → m ≤ hi → K (.int .i64 m) w) : xE Tryd.prog (sCall 14 #[.int .i64 n, .int .i64 lo, .int .i64 hi]) w K := by
  refine xE_call CF_14 (within_ok (by omega) h1 (by omega)) ?_
  rintro _ _ ⟨rfl, rfl⟩
  obtain ⟨b1, b2⟩ := within_bd (n := n) h1
  exact k _ b1 b2
theorem faultNone_ok {l : List (ByteArray × Int)} {n : Int} {v : Value} {w : World} (hg : Glob w) (hl : SlT w encSp v l) : Gives Tryd.prog 4 #[v, .int .i64 n] w fun u w' => u = .bool true ∧ Kept [] w w' := by
  refine C_stavelaw1_FaultNone ?_
  unfold S_stavelaw1_FaultNone
  have hl0 := hl
  obtain ⟨a, c, rfl, _, _⟩ := hl
  refine xLoop_of (fun ls w' => ∃ i : Nat, ls = [.nilIface, .int .i64 i] ∧ i ≤ 9 ∧ Kept [] w w') (fun ls _ => match ls with | [_, .int _ i] => 9 - i.toNat | _ => 0) ⟨0, rfl, by omega, Kept.refl _ _⟩ ?_
  rintro _ _ w1 ⟨i, rfl, hi, hk⟩
  simp only [List.getD_cons_zero, List.getD_cons_succ]
  refine xTest2 SL_38 (fun h1 h2 _ => ?_) (fun _ _ => ?_)
  · simp only [List.getD_cons_zero, xIf_true]
    have hd := hk.then (kept_drew [] w1) (by simp)
    refine (rowSp.fld hl0 hd h1 FSp0 ONE_9 rfl).2 ?_
    refine (rowSp.fld hl0 hd h1 FSp1 ONE_3 rfl).2 ?_
    refine wrapN ?_
    refine (xR_neqN IFE).2 ?_
    simp only [xIf_false, xP_nil, xP_pick, xP_func, xP_not, xP_add, xP_sub, xP_mul, xP_lss, xP_leq, xP_gtr, xP_geq, xP_max2, xP_min2, xR_eql, xR_neq, Nat.zero_add, Nat.add_zero, Nat.reduceAdd, List.getD_cons_zero, List.getD_cons_succ, xIf_true, xIf_false, FA_40_0, FA_40_1, FA_47_0, FA_47_1, FA_47_2, LEN_34, LEN_38, LEN_48, LEN_53, LEN_78]
    rw [wrap64 (by omega) (by omega)]
    exact ⟨⟨i + 1, rfl, by omega, hd⟩, by omega⟩
  · simp only [List.getD_cons_zero, xIf_false]
    refine xE_call CF_8 whereNil_ok ?_
    rintro _ w2 ⟨rfl, hk2⟩
    simp only [whereV, xP_t0, xP_t1, xP_t2]
    refine xE_call CF_9 lostNil_ok ?_
    rintro _ w3 ⟨rfl, hk3⟩
    simp only [xP_ex0, xP_ex1]
    have hk03 := (hk.then hk2 (by simp)).then hk3 (by simp)
    refine xE_alloc Z_29 fun w4 hb4 hk4 hz4 => ?_
    have hb4 : Blk w4 w3.heap.size 29 (encL (0, 0, 0)) := hb4
    refine storeL (x := (0, 0, 0)) hb4 fun w5 hb5 hk5 _ => ?_
    have hk05 := hk03.then (hk4.then hk5 (by simp)) (by simp)
    refine xE_call CF_10 kindNil_ok ?_
    rintro _ w6 ⟨rfl, hk6⟩
    have hk06 := hk05.then hk6 (by simp)
    simp only [xR_eql, decide_true, xIf_true, xP_not, Bool.not_false]
    refine xE_call CF_12 pathNil_ok ?_
    rintro _ w7 ⟨rfl, hk7⟩
    have hk07 := hk06.then hk7 (by simp)
    refine (xP_len SL_34).2 ?_
    rw [show ((0 : Nat) : Int) = 0 from rfl]
    simp only [xR_eql, decide_true, xIf_true]
    refine withinI (by omega) (by omega) (by omega) fun m hm1 hm2 => ?_
    refine errs1 fun v w8 hv8 hk8 => ?_
    have hk08 := hk07.then hk8 (by simp)
    refine xE_call CF_13 (firstNil_ok hv8 (by simp)) ?_
    rintro _ w9 ⟨rfl, hk9⟩
    have hk09 := hk08.then hk9 (by simp)
    simp only [xR_eql, decide_true, xIf_true]
    refine (xP_iface CEN).2 ?_
    refine xE_call CF_13 (first_ok (e := .no 1) (ks := []) (slT_none rfl) (by simp)) ?_
    rintro _ w10 ⟨rfl, hk10⟩
    have hk0A := hk09.then hk10 (by simp)
    rw [show firstP (.no 1) [] = -1 from rfl]
    simp only [xR_eql, decide_true, xIf_true]
    exact fRunsG hg hk0A
theorem plain_isL : ∀ {e : Er}, Er.plain e → ∀ a b c : Int, Er.isIt e (.loss a b c) = false
  | .no _, _, _, _, _ => rfl
  | .loss _ _ _, h, _, _, _ => h.elim
  | .flt _ _ e, h, a, b, c => plain_isL (e := e) h a b c
theorem plain_kind : ∀ {e : Er}, Er.plain e → Er.errno e = some e.kind
  | .no _, _ => rfl
  | .loss _ _ _, h => h.elim
  | .flt _ _ e, h => plain_kind (e := e) h
theorem faultInner_ok {n at_ : Int} {op : ByteArray} {l : List (ByteArray × Int)} {v : Value} {w : World} (hg : Glob w) (hl : SlT w encSp v l) : Gives Tryd.prog 5 #[.int .i64 n, v, .string op, .int .i64 at_] w fun u w' => u = .bool true ∧ Kept [] w w' := by
  refine C_stavelaw1_FaultInner ?_
  unfold S_stavelaw1_FaultInner
  have hl0 := hl
  obtain ⟨a, c, rfl, _, _⟩ := hl
  refine withinI (by omega) (by omega) (by omega) fun m hm1 hm2 => ?_
  refine (xP_iface CEN).2 ?_
  refine wrapS (e := .no m) ?_
  refine xLoop_of (fun ls w' => ∃ (i : Nat) (e : Er), ls = [erV e, .int .i64 i] ∧ i ≤ 30 ∧ Er.plain e ∧ e.kind = m ∧ e.where? = some (op, at_) ∧ (Er.faults e).length = i + 1 ∧ Kept [] w w') (fun ls _ => match ls with | [_, .int _ i] => 30 - i.toNat | _ => 0)
    ⟨0, .flt op at_ (.no m), rfl, by omega, trivial, rfl, rfl, rfl, Kept.refl _ _⟩ ?_
  rintro _ _ w1 ⟨i, e, rfl, hi, hp, hkd, hwh, hfl, hk⟩
  simp only [List.getD_cons_zero, List.getD_cons_succ]
  refine xTest2 SL_38 (fun h1 h2 _ => ?_) (fun _ _ => ?_)
  · simp only [List.getD_cons_zero, xIf_true]
    refine xE_call CF_12 (path_ok hp (by omega) (hg.kept0 hk)) ?_
    rintro wv w2 ⟨hwas, hk2⟩
    have hk02 := hk.then hk2 (by simp)
    have hd2 := hk02.then (kept_drew [] w2) (by simp)
    refine (rowSp.fld hl0 hd2 h1 FSp0 ONE_9 rfl).2 ?_
    refine (rowSp.fld hl0 hd2 h1 FSp1 ONE_3 rfl).2 ?_
    refine wrapS ?_
    have hp' : Er.plain (.flt l[i].1 l[i].2 e) := hp
    have hfl' : (Er.faults (.flt l[i].1 l[i].2 e)).length = i + 2 := by simp only [Er.faults, List.length_cons, hfl]
    refine xE_call CF_12 (path_ok hp' (by omega) (hg.kept0 hd2)) ?_
    rintro pv w3 ⟨hpv, hk3⟩
    have hk03 := hd2.then hk3 (by simp)
    have hwas3 := (hwas.kept0 (kept_drew [] w2)).kept0 hk3
    have hd3 := hk03.then (kept_drew [] w3) (by simp)
    have hpv0 := hpv.kept0 (kept_drew [] w3)
    have hwasD := hwas3.kept0 (kept_drew [] w3)
    have hpn : Er.faults (.flt l[i].1 l[i].2 e) = (l[i].1, l[i].2, e) :: Er.faults e := rfl
    rw [hpn, List.map_cons] at hpv hpv0
    generalize hP : (Er.faults e).map (·.1) = P at *
    have hPl : P.length = i + 1 := by rw [← hP, List.length_map, hfl]
    refine xJoin_of (fun ls w' => ls = [.bool false] ∧ Kept [] w w') ?_ ?_
    · have hpvx := hpv
      have hwx := hwas3
      obtain ⟨pa, pc, rfl, _, _⟩ := hpvx
      obtain ⟨wa, wc, rfl, _, _⟩ := hwx
      refine (xP_len SL_34).2 ?_
      refine (xP_len SL_34).2 ?_
      refine xP_add.2 ?_
      rw [wrap64 (by omega) (by omega)]
      refine xR_neq.2 ?_
      rw [show decide (((l[i].1 :: P).length : Int) ≠ (P.length : Int) + 1) = false from decide_eq_false (by simp)]
      simp only [xIf_false]
      refine (rowSt.get (i := 0) hpv0 (Kept.refl _ _) (by simp)).2 ?_
      refine (rowSp.fld hl0 hd3 h1 FSp0 ONE_9 rfl).2 ?_
      refine xR_neqStr.2 ?_
      simp only [List.getElem_cons_zero, decide_true, Bool.not_true, xIf_false]
      refine (xP_from (i := 1) SL_34 SZ_9 (by omega) (by simp; omega)).2 ?_
      have hsub := SlT.sub (i := 1) (j := (l[i].1 :: P).length) encS_len hpv0 (by simp) (Nat.le_refl _)
      have e1 : ((l[i].1 :: P).drop 1).take ((l[i].1 :: P).length - 1) = P := by simp
      rw [e1] at hsub
      refine xE_call CF_11 (sameSq hsub hwasD (by omega)) ?_
      rintro _ w4 ⟨rfl, hk4⟩
      simp only [decide_true, xP_not, Bool.not_true]
      exact ⟨by trivial, hd3.then hk4 (by simp)⟩
    rintro _ _ w4 ⟨rfl, hk04⟩
    simp only [List.getD_cons_zero, xIf_false]
    have hwh' : (Er.flt l[i].1 l[i].2 e).where? = some (op, at_) := by simp only [Er.where?, hwh]
    refine xE_call CF_8 (where_ok hp' (by omega) (hg.kept0 hk04)) ?_
    rintro _ w5 ⟨rfl, hk5⟩
    have hk05 := hk04.then hk5 (by simp)
    rw [hwh']
    simp only [whereV, xP_t0, xP_t1, xP_t2]
    refine xJoin_of (fun ls w' => ls = [.bool false] ∧ Kept [] w w') ?_ ?_
    · simp only [xP_not, Bool.not_true, xIf_false]
      refine xR_neqStr.2 ?_
      simp only [decide_true, Bool.not_true, xIf_false]
      refine xR_neq.2 ?_
      simp only [ne_eq, not_true_eq_false, decide_false, xIf_false]
      refine kindQ (e := .flt l[i].1 l[i].2 e) (hg.kept0 hk05) fun w6 hk6 => ?_
      have hk06 := hk05.then hk6 (by simp)
      rw [plain_kind hp', show (Er.flt l[i].1 l[i].2 e).kind = e.kind from rfl, hkd, Option.getD_some]
      refine xR_neq.2 ?_
      simp only [ne_eq, not_true_eq_false, decide_false, xIf_false]
      refine (xP_build (cells := #[.int .i64 0, .int .i64 0, .int .i64 0]) (by kernel_rfl)).2 ?_
      refine (xP_iface CLO).2 ?_
      refine isQ (e := .flt l[i].1 l[i].2 e) (t := .loss 0 0 0) trivial fun w7 hk7 => ?_
      rw [plain_isL hp']
      exact ⟨rfl, hk06.then hk7 (by simp)⟩
    rintro _ _ w6 ⟨rfl, hk06⟩
    simp only [List.getD_cons_zero, xIf_false, xP_nil, xP_pick, xP_func, xP_not, xP_add, xP_sub, xP_mul, xP_lss, xP_leq, xP_gtr, xP_geq, xP_max2, xP_min2, xR_eql, xR_neq, Nat.zero_add, Nat.add_zero, Nat.reduceAdd, List.getD_cons_zero, List.getD_cons_succ, xIf_true, xIf_false, FA_40_0, FA_40_1, FA_47_0, FA_47_1, FA_47_2, LEN_34, LEN_38, LEN_48, LEN_53, LEN_78]
    rw [wrap64 (by omega) (by omega)]
    exact ⟨⟨i + 1, _, rfl, by omega, hp', hkd, hwh', hfl', hk06⟩, by omega⟩
  · simp only [List.getD_cons_zero, xIf_false]
    exact fRunsG hg hk
theorem faultLoss_ok {x y : Int × Int × Int} {n : Int} {l : List (ByteArray × Int)} {v : Value} {w : World} (hg : Glob w) (hl : SlT w encSp v l) : Gives Tryd.prog 6 #[vL x, vL y, v, .int .i64 n] w fun u w' => u = .bool true ∧ Kept [] w w' := by
  refine C_stavelaw1_FaultLoss ?_
  unfold S_stavelaw1_FaultLoss
  have hl0 := hl
  obtain ⟨a, c, rfl, _, _⟩ := hl
  refine xE_box fun w1 hb1 hk1 hz1 => ?_
  have hb1 : Blk w1 w.heap.size 29 (encL x) := hb1
  refine xE_box fun w2 hb2 hk2 hz2 => ?_
  have hb2 : Blk w2 w1.heap.size 29 (encL y) := hb2
  have hb12 := hb1.kept hk2 (by simp)
  have hk02 := hk1.then hk2 (by simp)
  refine (ldN (l := encL x) AGG_29 hb12.at).2 ?_
  refine (xP_iface CLO).2 ?_
  generalize hX : w.heap.size = X at *
  generalize hY : w1.heap.size = Y at *
  refine xLoop_of (fun ls w' => ∃ (i : Nat) (e : Er), ls = [erV e, .int .i64 i] ∧ i ≤ 9 ∧ Er.lost e = some x ∧ Er.errno e = none ∧ (∀ t, Er.isIt e t = Er.isIt (.loss x.1 x.2.1 x.2.2) t) ∧ Kept [] w2 w') (fun ls _ => match ls with | [_, .int _ i] => 9 - i.toNat | _ => 0)
    ⟨0, .loss x.1 x.2.1 x.2.2, rfl, by omega, rfl, rfl, fun _ => rfl, Kept.refl _ _⟩ ?_
  rintro _ _ w3 ⟨i, e, rfl, hi, hlo, hen, his, hk3⟩
  simp only [List.getD_cons_zero, List.getD_cons_succ]
  refine xTest2 SL_38 (fun h1 h2 _ => ?_) (fun _ _ => ?_)
  · simp only [List.getD_cons_zero, xIf_true]
    have hd := hk02.then (hk3.then (kept_drew [] w3) (by simp)) (by simp)
    refine (rowSp.fld hl0 hd h1 FSp0 ONE_9 rfl).2 ?_
    refine (rowSp.fld hl0 hd h1 FSp1 ONE_3 rfl).2 ?_
    refine wrapS ?_
    simp only [xP_nil, xP_pick, xP_func, xP_not, xP_add, xP_sub, xP_mul, xP_lss, xP_leq, xP_gtr, xP_geq, xP_max2, xP_min2, xR_eql, xR_neq, Nat.zero_add, Nat.add_zero, Nat.reduceAdd, List.getD_cons_zero, List.getD_cons_succ, xIf_true, xIf_false, FA_40_0, FA_40_1, FA_47_0, FA_47_1, FA_47_2, LEN_34, LEN_38, LEN_48, LEN_53, LEN_78]
    rw [wrap64 (by omega) (by omega)]
    exact ⟨⟨i + 1, _, rfl, by omega, hlo, hen, his, hk3.then (kept_drew [] w3) (by simp)⟩, by omega⟩
  · simp only [List.getD_cons_zero, xIf_false]
    refine withinI (by omega) (by omega) (by omega) fun m hm1 hm2 => ?_
    have hk03 := hk02.then hk3 (by simp)
    refine lostQ (hg.kept0 hk03) fun w4 hk4 => ?_
    rw [hlo]
    simp only [Option.getD_some, Option.isSome_some, xP_ex0, xP_ex1]
    have hk24 := hk3.then hk4 (by simp)
    refine xE_alloc Z_29 fun w5 hb5 hk5 hz5 => ?_
    have hb5 : Blk w5 w4.heap.size 29 (encL (0, 0, 0)) := hb5
    refine storeL (x := x) hb5 fun w6 hb6 hk6 _ => ?_
    have hk46 : Kept [] w4 w6 := hk5.then hk6 (by simp)
    have hk26 := hk24.then hk46 (by simp)
    have hd6 := hk26.then (kept_drew [] w6) (by simp)
    have hb6d : Blk w6.drew w4.heap.size 29 (encL x) := hb6
    simp only [xIf_true]
    refine (ldN (l := encL x) AGG_29 hb6d.at).2 ?_
    refine (ldN (l := encL x) AGG_29 (hb12.kept hd6 (by simp)).at).2 ?_
    refine eqLs.2 ?_
    simp only [beq_self_eq_true, Bool.and_self, xIf_true]
    refine (xP_iface CEN).2 ?_
    refine isQ (e := e) (t := .no 6) trivial fun w7 hk7 => ?_
    rw [his, show Er.isIt (.loss x.1 x.2.1 x.2.2) (.no 6) = true from rfl]
    simp only [xIf_true]
    refine (xP_iface CEN).2 ?_
    have hd7 := hd6.then hk7 (by simp)
    refine xR_eql.2 ?_
    refine isQ (e := e) (t := .no m) trivial fun w8 hk8 => ?_
    have hd8 := hd7.then hk8 (by simp)
    have e8 : Er.isIt (.loss x.1 x.2.1 x.2.2) (.no m) = decide (m = 6) := by
      show (false || (m == 6)) = _
      rw [Bool.false_or]
      rfl
    rw [his, e8]
    refine (xStill_eql rfl).2 ?_
    refine (xR_eqlBool (by unfold boolB; kernel_rfl)).2 ?_
    simp only [beq_self_eq_true, xIf_true]
    have hb1d := hb12.kept hd8 (by simp)
    have hb2d := hb2.kept hd8 (by simp)
    refine (ldN (l := encL y) AGG_29 hb2d.at).2 ?_
    refine (xP_iface CLO).2 ?_
    refine (ldN (l := encL x) AGG_29 hb1d.at).2 ?_
    refine (ldN (l := encL y) AGG_29 hb2d.at).2 ?_
    refine eqLs.2 ?_
    refine isQ (e := e) (t := .loss y.1 y.2.1 y.2.2) trivial fun w9 hk9 => ?_
    have hd9 := hd8.then hk9 (by simp)
    have hb1e := hb1d.kept hk9 (by simp)
    have hb2e := hb2d.kept hk9 (by simp)
    rw [his, show Er.isIt (.loss x.1 x.2.1 x.2.2) (.loss y.1 y.2.1 y.2.2) = (x.1 == y.1 && (x.2.1 == y.2.1 && x.2.2 == y.2.2)) from Bool.or_false _]
    refine (xStill_xR (eqLs.2 rfl)).2 ?_
    refine (stillN (l := encL y) AGG_29 hb2e.at).2 ?_
    refine (stillN (l := encL x) AGG_29 hb1e.at).2 ?_
    refine (xR_eqlBool (by unfold boolB; kernel_rfl)).2 ?_
    simp only [beq_self_eq_true, xIf_true]
    refine xR_neq.2 ?_
    refine errs1 fun v w10 hv10 hk10 => ?_
    refine (xStill_xR (xR_neq.2 rfl)).2 ?_
    refine xE_call CF_13 (first_ok (e := e) hv10 (by simp)) ?_
    rintro _ w11 ⟨rfl, hk11⟩
    refine (xStill_xR (xR_neq.2 rfl)).2 ?_
    refine xR_eql.2 ?_
    have ef : decide (firstP e [m] = -1) = decide (m ≠ 6) := by
      unfold firstP
      have hg' : Er.isIt e (.no m) = decide (m = 6) := by rw [his, e8]
      by_cases h6 : m = 6
      · have hc : ([m].findIdx fun k => Er.isIt e (.no k)) = 0 := by simp only [List.findIdx_cons, hg']; rw [decide_eq_true h6]; rfl
        rw [hc]
        simp [h6]
      · have hc : ([m].findIdx fun k => Er.isIt e (.no k)) = 1 := by simp [List.findIdx_cons, hg', h6]
        rw [hc]
        simp [h6]
    rw [ef]
    refine (xR_eqlBool (by unfold boolB; kernel_rfl)).2 ?_
    simp only [beq_self_eq_true, xIf_true]
    exact fRunsG hg (hk02.then ((hd9.then hk10 (by simp)).then hk11 (by simp)) (by simp))
/-! ## Openers -/
open Go.ChangeShapes Go.WideShapes in
theorem open_steps {w : World} {r : Reach} {b0 : Nat} {H : Type} {e0 : TypeId × Value → H} {v : Value} {d : DataW H} {p : List MemPlace} (hv : Value.okWide Tryd.prog w r b0 38 v) (h : DataW.Trod e0 Tryd.prog w 0 (fun _ => true) true 38 v d p) : ∃ l : List (ByteArray × Int), SlT w encSp v l := by
  have hst : structOf Tryd.prog 40 [9, 3] := ⟨by kernel_rfl, by kernel_rfl, by kernel_rfl, by kernel_rfl⟩
  have hS : OpensE Tryd.prog w 40 encSp fun _ => True := by
    intro H e0 fuel cs x h
    obtain ⟨hl, hf⟩ := trod_struct_types hst h
    obtain ⟨v0, n0, y0, h0, t0⟩ := hf 0 _ rfl
    obtain ⟨v1, n1, y1, h1, t1⟩ := hf 1 _ rfl
    obtain ⟨s, hs, _⟩ := opens_str (T := 9) (by kernel_rfl) H e0 n0 _ _ t0
    obtain ⟨a, ha, _⟩ := opens_int (T := 3) (by kernel_rfl) H e0 n1 _ _ t1
    rcases cs with _ | ⟨c0, _ | ⟨c1, _ | ⟨c2, cs⟩⟩⟩ <;> simp at hl
    simp at h0 h1
    subst h0; subst h1
    simp [encS] at hs
    simp [encI] at ha
    exact ⟨(s, a), by rw [hs, ha]; rfl, trivial⟩
  obtain ⟨l, h1, _, _⟩ := open_arg_slice (T := 38) (E := 40) (by kernel_rfl) (by kernel_rfl) encSp_len (by omega) hS hv h
  exact ⟨l, h1⟩
open Go.ChangeShapes Go.WideShapes in
theorem open_loss {w : World} {r : Reach} {b0 : Nat} {H : Type} {e0 : TypeId × Value → H} {v : Value} {d : DataW H} {p : List MemPlace} (hv : Value.okWide Tryd.prog w r b0 29 v) (h : DataW.Trod e0 Tryd.prog w 0 (fun _ => true) true 29 v d p) : ∃ x : Int × Int × Int, v = vL x := by
  have hst : structOf Tryd.prog 29 [3, 3, 3] := ⟨by kernel_rfl, by kernel_rfl, by kernel_rfl, by kernel_rfl⟩
  obtain ⟨cs, rfl, hl, hf⟩ := open_arg_struct hst hv h
  obtain ⟨v0, n0, y0, h0, t0⟩ := hf 0 _ rfl
  obtain ⟨v1, n1, y1, h1, t1⟩ := hf 1 _ rfl
  obtain ⟨v2, n2, y2, h2, t2⟩ := hf 2 _ rfl
  obtain ⟨a, ha, _⟩ := opens_int (T := 3) (by kernel_rfl) H e0 n0 _ _ t0
  obtain ⟨b, hb, _⟩ := opens_int (T := 3) (by kernel_rfl) H e0 n1 _ _ t1
  obtain ⟨c, hc, _⟩ := opens_int (T := 3) (by kernel_rfl) H e0 n2 _ _ t2
  rcases cs with _ | ⟨c0, _ | ⟨c1, _ | ⟨c2, _ | ⟨c3, cs⟩⟩⟩⟩ <;> simp at hl
  simp at h0 h1 h2
  subst h0; subst h1; subst h2
  simp [encI] at ha hb hc
  subst ha; subst hb; subst hc
  exact ⟨(a, b, c), rfl⟩
open Go.ChangeShapes Go.WideShapes in
theorem open_text {w : World} {r : Reach} {b0 : Nat} {H : Type} {e0 : TypeId × Value → H} {v : Value} {d : DataW H} {p : List MemPlace} (hv : Value.okWide Tryd.prog w r b0 9 v) (h : DataW.Trod e0 Tryd.prog w 0 (fun _ => true) true 9 v d p) : ∃ s : ByteArray, v = .string s := by
  obtain ⟨s, rfl, _⟩ := Go.ChangeMaps.open_string (by kernel_rfl) hv h
  exact ⟨s, rfl⟩
end Go.Proofs.YtpgfmpjepoedjaaDoor
