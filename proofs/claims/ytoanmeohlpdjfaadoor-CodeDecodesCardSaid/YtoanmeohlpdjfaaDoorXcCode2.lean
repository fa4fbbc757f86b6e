import Derived.Test.YtoanmeohlpdjfaaDoorXcCode1
namespace Go.Proofs.YtoanmeohlpdjfaaDoor
set_option linter.unusedSimpArgs false
set_option linter.unusedVariables false
set_option maxRecDepth 100000
attribute [local irreducible] Go.X.xE
open Go Go.X Go.RowKit

theorem CI64 : intB Tryd.prog 3 .i64 := by unfold intB; kernel_rfl
theorem CU8 : intB Tryd.prog 5 .u8 := by unfold intB; kernel_rfl
theorem xor64 {a b : Nat} (ha : a < 2 ^ 40) (hb : b < 2 ^ 40) : IntKind.i64.wrap ((BitVec.ofInt 64 (a : Int) ^^^ BitVec.ofInt 64 (b : Int)).toNat : Nat) = ((a ^^^ b : Nat) : Int) := by
  have e : (BitVec.ofInt 64 (a : Int) ^^^ BitVec.ofInt 64 (b : Int)).toNat = a ^^^ b := by
    rw [BitVec.toNat_xor, BitVec.toNat_ofInt, BitVec.toNat_ofInt]
    have e1 : ((a : Int) % ((2 : Nat) ^ 64 : Nat)).toNat = a := by omega
    have e2 : ((b : Int) % ((2 : Nat) ^ 64 : Nat)).toNat = b := by omega
    rw [e1, e2]
  have := Nat.xor_lt_two_pow ha hb
  rw [e]
  exact wrap64 (by omega) (by omega)
theorem xP_xorN {T : TypeId} {K : Value → Prop} {a b : Nat} (ha : a < 2 ^ 40) (hb : b < 2 ^ 40) : xP Tryd.prog (sBin .xor T (.int .i64 a) (.int .i64 b)) K ↔ K (.int .i64 ((a ^^^ b : Nat) : Int)) :=
  xP_xor.trans (Iff.of_eq (congrArg (fun z => K (.int .i64 z)) (xor64 ha hb)))
theorem gexp_255up {j : Nat} (h : 255 ≤ j) : gexp j = gexp (j - 255) := by
  have : gexp j = dbls (j - 255 + 255) 1 := by rw [show j - 255 + 255 = j by omega]; rfl
  rw [this, dbls_add]
  show dbls (j - 255) (gexp 255) = _
  rw [gexp_255]
  rfl
def fz : List Value := List.replicate 510 (.int .u8 0) ++ List.replicate 256 (.int .i64 0)
theorem fz_built : Tryd.prog.built 86 [] = some fz.toArray := by kernel_rfl
theorem set3 {cur : List Value} {a b c : Nat} {x y z : Value} (ha : a < cur.length) (hb : b < cur.length) (hc : c < cur.length) (m : Nat) : (((cur.set a x).set b y).set c z)[m]? = if c = m then some z else if b = m then some y else if a = m then some x else cur[m]? := by
  rw [List.getElem?_set, List.getElem?_set, List.getElem?_set, List.length_set, List.length_set, if_pos hc, if_pos hb, if_pos ha]
theorem fmake_ok {w : World} : Gives Tryd.prog 28 #[] w fun u w' => u = .pointer (some ⟨w.heap.size, 0, none⟩) ∧ FieldIs w' w.heap.size ∧ Kept [] w w' := by
  refine C_gf_Make ?_
  unfold S_gf_Make
  refine (xP_build fz_built).2 ?_
  refine xE_box fun w1 hb1 hk1 hz1 => ?_
  have hb1' : Blk w1 w.heap.size 86 fz := by simpa [Value.cells] using hb1
  clear hb1
  try simp only [xP_nil, xP_pick, xP_func, xP_not, xP_add, xP_sub, xP_mul, xP_lss, xP_leq, xP_gtr, xP_geq, xP_max2, xP_min2, xR_eql, xR_neq, Nat.zero_add, Nat.add_zero, Nat.reduceAdd, List.getD_cons_zero, List.getD_cons_succ, xIf_true, xIf_false, FA_35_0, FA_35_1, FA_66_0, FA_66_1, FA_66_2, FA_82_0, FA_82_1, FA_82_2, FA_86_0, FA_86_1, LEN_29, LEN_32, LEN_47, LEN_48, LEN_79, LEN_116]
  refine (xP_IAarr (i := 0) ARL SZ_3 (by omega)).2 ?_
  have hfl : fz.length = 766 := by simp [fz]
  generalize fz = c0 at *
  refine xE_store1 SZ_3 hb1' (by omega) rfl fun w2 hb2 hk2 hz2 => ?_
  have hlen2 : (c0.set (510 + 0 * 1) (.int .i64 (-1))).length = 766 := by rw [List.length_set, hfl]
  generalize c0.set (510 + 0 * 1) (.int .i64 (-1)) = c1 at *
  refine xLoop_of (fun ls w' => ∃ (i : Nat) (cur : List Value), ls = [.int .i64 (gexp i : Nat), .int .i64 i] ∧ i ≤ 255 ∧ Blk w' w.heap.size 86 cur ∧ cur.length = 766 ∧ (∀ j, j < i → cur[j]? = some (.int .u8 (gexp j : Nat)) ∧ cur[j + 255]? = some (.int .u8 (gexp j : Nat))) ∧ (∀ v, 0 < v → v < 256 → glog v < i → cur[510 + v]? = some (.int .i64 (glog v : Nat))) ∧ Kept [] w w')
    (fun ls _ => match ls with | [_, .int _ i] => 255 - i.toNat | _ => 0) ⟨0, c1, rfl, by omega, hb2, hlen2, by omega, fun v _ _ h => by omega, hk1.then hk2 (by simp)⟩ ?_
  clear hlen2 hb2 hb1' hfl hz2 hz1
  rintro _ _ w3 ⟨i, cur, rfl, hi, hb3, hlen, h1, h2, hk3⟩
  simp only [xP_nil, xP_pick, xP_func, xP_not, xP_add, xP_sub, xP_mul, xP_lss, xP_leq, xP_gtr, xP_geq, xP_max2, xP_min2, xR_eql, xR_neq, Nat.zero_add, Nat.add_zero, Nat.reduceAdd, List.getD_cons_zero, List.getD_cons_succ, xIf_true, xIf_false, FA_35_0, FA_35_1, FA_66_0, FA_66_1, FA_66_2, FA_82_0, FA_82_1, FA_82_2, FA_86_0, FA_86_1, LEN_29, LEN_32, LEN_47, LEN_48, LEN_79, LEN_116, xIf_dec]
  refine ⟨fun hlt => ?_, fun hge => ?_⟩
  · have hx := gexp_lt i
    rw [wrap64 (by omega) (by omega)]
    refine xJoin_of (fun ls w' => ∃ cur : List Value, ls = [.int .i64 (gexp (i + 1) : Nat)] ∧ Blk w' w.heap.size 86 cur ∧ cur.length = 766 ∧ (∀ j, j < i + 1 → cur[j]? = some (.int .u8 (gexp j : Nat)) ∧ cur[j + 255]? = some (.int .u8 (gexp j : Nat))) ∧ (∀ v, 0 < v → v < 256 → glog v < i + 1 → cur[510 + v]? = some (.int .i64 (glog v : Nat))) ∧ Kept [] w w') ?_ ?_
    · refine (xP_conv CI64 CU8).2 ?_
      refine (xP_conv CI64 CU8).2 ?_
      rw [wrapU8, show ((gexp i : Nat) : Int) % 256 = (gexp i : Nat) by omega]
      refine (xP_IAarr ARE SZ_5 (show i < 510 by omega)).2 ?_
      rw [Nat.zero_add, Nat.mul_one]
      refine xE_store1 SZ_5 (blk_drew hb3) (by omega) rfl fun w4 hb4 hk4 hz4 => ?_
      rw [show ((i : Int) + 255) = ((i + 255 : Nat) : Int) by omega]
      refine (xP_IAarr ARE SZ_5 (show i + 255 < 510 by omega)).2 ?_
      rw [Nat.zero_add, Nat.mul_one]
      refine xE_store1 SZ_5 hb4 (by rw [List.length_set]; omega) rfl fun w5 hb5 hk5 hz5 => ?_
      refine (xP_IAarr ARL SZ_3 hx).2 ?_
      rw [Nat.mul_one]
      refine xE_store1 SZ_3 hb5 (by rw [List.length_set, List.length_set]; omega) rfl fun w6 hb6 hk6 hz6 => ?_
      refine (xP_shl (by omega)).2 ?_
      have esh : IntKind.i64.wrap ((gexp i : Nat) * 2 ^ min (1 : Int).toNat IntKind.i64.bits) = ((2 * gexp i : Nat) : Int) := by
        rw [show min (1 : Int).toNat IntKind.i64.bits = 1 from rfl]
        rw [wrap64 (by omega) (by omega)]
        omega
      rw [esh]
      have hk36 : Kept [] w w6 := ((hk3.drew.then hk4 (by simp)).then hk5 (by simp)).then hk6 (by simp)
      have hget := set3 (cur := cur) (a := i) (b := i + 255) (c := 510 + gexp i) (x := .int .u8 (gexp i : Nat)) (y := .int .u8 (gexp i : Nat)) (z := .int .i64 i) (by omega) (by omega) (by omega)
      have hl6 : (((cur.set i (.int .u8 (gexp i : Nat))).set (i + 255) (.int .u8 (gexp i : Nat))).set (510 + gexp i) (.int .i64 i)).length = 766 := by rw [List.length_set, List.length_set, List.length_set, hlen]
      have d1 : ∀ j, j < i + 1 → (((cur.set i (.int .u8 (gexp i : Nat))).set (i + 255) (.int .u8 (gexp i : Nat))).set (510 + gexp i) (.int .i64 i))[j]? = some (.int .u8 (gexp j : Nat)) ∧ (((cur.set i (.int .u8 (gexp i : Nat))).set (i + 255) (.int .u8 (gexp i : Nat))).set (510 + gexp i) (.int .i64 i))[j + 255]? = some (.int .u8 (gexp j : Nat)) := by
        intro j hj
        rw [hget, hget, if_neg (by omega), if_neg (by omega), if_neg (show ¬ 510 + gexp i = j + 255 by omega)]
        by_cases hji : i = j
        · subst hji
          rw [if_pos rfl, if_pos rfl]
          exact ⟨rfl, rfl⟩
        · rw [if_neg hji, if_neg (show ¬ i + 255 = j + 255 by omega), if_neg (show ¬ i = j + 255 by omega)]
          exact h1 j (by omega)
      have d2 : ∀ v, 0 < v → v < 256 → glog v < i + 1 → (((cur.set i (.int .u8 (gexp i : Nat))).set (i + 255) (.int .u8 (gexp i : Nat))).set (510 + gexp i) (.int .i64 i))[510 + v]? = some (.int .i64 (glog v : Nat)) := by
        intro v hv0 hv hgl
        rw [hget]
        by_cases hgi : glog v = i
        · have : gexp i = v := by rw [← hgi]; exact gexp_glog hv (by omega)
          rw [if_pos (by omega), hgi]
        · have : gexp i ≠ v := fun e => hgi (by rw [← e]; exact glog_gexp (by omega))
          rw [if_neg (by omega), if_neg (by omega), if_neg (by omega)]
          exact h2 v hv0 hv (by omega)
      have hd : gexp (i + 1) = dbl (gexp i) := rfl
      try simp only [xP_nil, xP_pick, xP_func, xP_not, xP_add, xP_sub, xP_mul, xP_lss, xP_leq, xP_gtr, xP_geq, xP_max2, xP_min2, xR_eql, xR_neq, Nat.zero_add, Nat.add_zero, Nat.reduceAdd, List.getD_cons_zero, List.getD_cons_succ, xIf_true, xIf_false, FA_35_0, FA_35_1, FA_66_0, FA_66_1, FA_66_2, FA_82_0, FA_82_1, FA_82_2, FA_86_0, FA_86_1, LEN_29, LEN_32, LEN_47, LEN_48, LEN_79, LEN_116]
      rw [xIf_dec]
      refine ⟨fun hbig => ?_, fun hsmall => ?_⟩
      · rw [show (285 : Int) = ((285 : Nat) : Int) from rfl]
        refine (xP_xorN (by omega) (by omega)).2 ?_
        refine ⟨_, ?_, hb6, hl6, d1, d2, hk36⟩
        rw [hd, dbl, if_neg (by omega)]
      · refine ⟨_, ?_, hb6, hl6, d1, d2, hk36⟩
        rw [hd, dbl, if_pos (by omega)]
    rintro _ _ w4 ⟨cur', rfl, hb4, hl4, d1, d2, hk4⟩
    try simp only [xP_nil, xP_pick, xP_func, xP_not, xP_add, xP_sub, xP_mul, xP_lss, xP_leq, xP_gtr, xP_geq, xP_max2, xP_min2, xR_eql, xR_neq, Nat.zero_add, Nat.add_zero, Nat.reduceAdd, List.getD_cons_zero, List.getD_cons_succ, xIf_true, xIf_false, FA_35_0, FA_35_1, FA_66_0, FA_66_1, FA_66_2, FA_82_0, FA_82_1, FA_82_2, FA_86_0, FA_86_1, LEN_29, LEN_32, LEN_47, LEN_48, LEN_79, LEN_116]
    rw [wrap64 (by omega) (by omega)]
    exact ⟨⟨i + 1, cur', rfl, by omega, hb4, hl4, d1, d2, hk4⟩, by omega⟩
  · obtain rfl : i = 255 := by omega
    refine ⟨rfl, ⟨cur, hb3, fun j hj => ?_, fun v h0 hv => h2 v h0 hv (glog_lt hv)⟩, hk3⟩
    by_cases hj2 : j < 255
    · exact (h1 j hj2).1
    · have := (h1 (j - 255) (by omega)).2
      rw [show j - 255 + 255 = j by omega] at this
      rw [gexp_255up (by omega)]
      exact this
end Go.Proofs.YtoanmeohlpdjfaaDoor
