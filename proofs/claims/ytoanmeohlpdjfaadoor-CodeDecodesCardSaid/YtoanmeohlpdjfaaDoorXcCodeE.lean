import Derived.Test.YtoanmeohlpdjfaaDoorXcCodeD
namespace Go.Proofs.YtoanmeohlpdjfaaDoor
set_option linter.unusedSimpArgs false
set_option linter.unusedVariables false
set_option maxRecDepth 100000
attribute [local irreducible] Go.X.xE
open Go Go.X Go.RowKit

/-! ## CodeBytes -/
theorem CBO : boolB Tryd.prog 4 := by unfold boolB; kernel_rfl
/-- One byte of the last block is turned. -/
def turnB (B : List (List UInt8)) (t p : Nat) (x : UInt8) : List (List UInt8) := B.set t ((B.getD t []).set p ((B.getD t []).getD p 0 ^^^ x))
theorem turnB_len (B : List (List UInt8)) (t p : Nat) (x : UInt8) : (turnB B t p x).length = B.length := List.length_set
theorem turnB_rows {B : List (List UInt8)} {t p s : Nat} {x : UInt8} (h : ∀ b ∈ B, b.length = s) (ht : t < B.length) : ∀ b ∈ turnB B t p x, b.length = s := by
  intro b hb
  unfold turnB at hb
  obtain ⟨i, hi, rfl⟩ := List.getElem_of_mem hb
  rw [List.getElem_set]
  split
  · rw [List.length_set, getD_lt ht]
    exact h _ (List.getElem_mem _)
  · exact h _ (List.getElem_mem _)
theorem turnB_get {B : List (List UInt8)} {t p j y : Nat} {x : UInt8} (ht : t < B.length) (hp : p < (B.getD t []).length) : ((turnB B t p x).getD j []).getD y 0 = (B.getD j []).getD y 0 ^^^ if j = t ∧ y = p then x else 0 := by
  unfold turnB
  rw [List.getD_eq_getElem?_getD (l := B.set t _), List.getElem?_set]
  by_cases hj : t = j
  · subst hj
    rw [if_pos rfl, if_pos ht]
    show ((B.getD t []).set p _).getD y 0 = _
    rw [List.getD_eq_getElem?_getD, List.getElem?_set]
    by_cases hy : p = y
    · subst hy
      rw [if_pos rfl, if_pos hp, if_pos ⟨rfl, rfl⟩]
      rfl
    · rw [if_neg hy, if_neg (by omega), xor_zero8, ← List.getD_eq_getElem?_getD]
  · rw [if_neg hj, if_neg (by omega), xor_zero8, ← List.getD_eq_getElem?_getD]
theorem turn_mix {k i s t p y : Nat} {B : List (List UInt8)} {x : UInt8} (hB : B.length = k) (ht : t < k) (hp : p < (B.getD t []).length) (hy : y < s) :
    (mixP (crow k i) (turnB B t p x) s).getD y 0 = (mixP (crow k i) B s).getD y 0 ^^^ if y = p then umul (coef k i t) x else 0 := by
  rw [mixP_get hy, mixP_get hy, turnB_len, hB]
  rw [show (fun j => ((turnB B t p x).getD j []).getD y 0) = fun j => (B.getD j []).getD y 0 ^^^ if j = t ∧ y = p then x else 0 from funext fun j => turnB_get (by omega) hp]
  rw [lin_xor]
  congr 1
  by_cases h : y = p
  · subst h
    rw [if_pos rfl, lin_crow, xsum_single (a := t) List.nodup_range (List.mem_range.2 ht) fun b _ hb => by rw [if_neg (by omega), umul_zero], if_pos ⟨rfl, rfl⟩]
  · rw [if_neg h, lin_crow]
    exact xsum_zero fun b _ => by rw [if_neg (by omega), umul_zero]
theorem coef_ne {k i t : Nat} (ht : t < k) (hi : i < 256) (hk : k ≤ 256) (h : k ≤ i ∨ i = t) : coef k i t ≠ 0 := by
  unfold coef
  by_cases h1 : k ≤ i
  · rw [if_pos h1]
    refine uinv_ne fun e => ?_
    rw [ofNat_xor i t hi (by omega)] at e
    have := congrArg UInt8.toNat (xor_eq_zero8.1 e)
    rw [u_of hi, u_of (by omega)] at this
    omega
  · rw [if_neg h1, if_pos (by omega)]
    decide
theorem cbytes_ok {k n size at_ : Int} {b : List UInt8} {x : UInt8} {vb : Value} {w : World} (hg : Glob w) (hb : SlT w encB vb b) :
    Gives Tryd.prog 6 #[.int .i64 k, .int .i64 n, .int .i64 size, .int .i64 at_, vb, .int .u8 x.toNat] w fun u w' => u = .bool true ∧ Kept [] w w' := by
  refine C_stavelaw4_CodeBytes ?_
  unfold S_stavelaw4_CodeBytes
  refine withinN (by omega) (by omega) (by omega) fun kk hk1 hk8 => ?_
  refine withinN (by omega) (by omega) (by omega) fun nn hn1 hn8 => ?_
  refine newS (by omega) (by omega) (by omega) fun p f cv w1 hC hkc => ?_
  simp only [xP_ex0, xP_ex1]
  refine madeT fun _ => ?_
  simp only [List.getD_cons_zero, xIf_false]
  refine withinN (by omega) (by omega) (by omega) fun s hs1 hs12 => ?_
  refine madeS (hb.kept0 hkc) (by omega) (by omega) fun bv rs G w2 ho2 hr2 hk2 => ?_
  have hBl := madeP_len kk s b
  have hBr := @madeP_rows kk s b
  generalize madeP kk s b = B at *
  have hR2 : RowsT w2 bv B := by rw [← hr2]; exact ho2.rows
  have hrl : rs.length = kk := by have := congrArg List.length hr2; rwa [List.length_map, hBl] at this
  have hC2 := hC.kept0 hk2
  have hk02 := hkc.then hk2 (by simp)
  refine encF hC2 hR2 hBl hBr (by omega) fun lv rl Gl w3 hol hxl hk3 => ?_
  simp only [xP_nil, xP_pick, xP_func, xP_not, xP_add, xP_sub, xP_mul, xP_lss, xP_leq, xP_gtr, xP_geq, xP_max2, xP_min2, xR_eql, xR_neq, Nat.zero_add, Nat.add_zero, Nat.reduceAdd, List.getD_cons_zero, List.getD_cons_succ, xIf_true, xIf_false, FA_35_0, FA_35_1, FA_66_0, FA_66_1, FA_66_2, FA_82_0, FA_82_1, FA_82_2, FA_86_0, FA_86_1, LEN_29, LEN_32, LEN_47, LEN_48, LEN_79, LEN_116, xP_ex0, xP_ex1]
  rw [wrap64 (by omega) (by omega), wrap64 (by omega) (by omega)]
  refine withinN (by omega) (by omega) (by omega) fun pp hp0 hp1 => ?_
  rw [show ((kk : Int) - 1) = ((kk - 1 : Nat) : Int) by omega]
  have hps : pp < s := by omega
  have hlast : kk - 1 < kk := by omega
  have ho3 := ho2.kept0 hk3
  refine (outRow ho3 (by omega)).2 ?_
  have hm : rs.getD (kk - 1) dRq ∈ rs := by rw [getD_lt (by omega)]; exact List.getElem_mem _
  have hok := ho3.ok _ hm
  have hrow : (rs.getD (kk - 1) dRq).x = B.getD (kk - 1) [] := rowX hr2 (by omega)
  have hrowl : (B.getD (kk - 1) []).length = s := by rw [getD_lt (by omega)]; exact hBr _ (List.getElem_mem _)
  refine (byteAt hok.slT (by rw [hrow, hrowl]; exact hps)).2 ?_
  rw [hrow, xP_xor8]
  unfold Rq.Ok at hok
  rw [hrow, hrowl] at hok
  obtain ⟨gg, oo, cc, hve, hFe⟩ := hok.ex (by omega)
  rw [hve] at hok ⊢
  refine (xP_IAn SL_32 SZ_5 hps).2 ?_
  rw [Nat.mul_one]
  refine xE_storeOwn SZ_5 hok (by rw [flat_len encB_len, hrowl]; omega) rfl fun w4 ho4 hk4 hz4 => ?_
  rw [flip_set8, ← hve] at ho4
  have hup := Out.upd (x := (B.getD (kk - 1) []).set pp ((B.getD (kk - 1) []).getD pp 0 ^^^ x)) ho3 (by omega) hk4 (by rw [List.length_set, hrowl]; exact ho4)
  have hr4 : (rs.set (kk - 1) ⟨(rs.getD (kk - 1) dRq).v, (rs.getD (kk - 1) dRq).F, (B.getD (kk - 1) []).set pp ((B.getD (kk - 1) []).getD pp 0 ^^^ x)⟩).map Rq.x = turnB B (kk - 1) pp x := by
    rw [List.map_set, hr2]; rfl
  have hR4 : RowsT w4 bv (turnB B (kk - 1) pp x) := by rw [← hr4]; exact hup.rows
  have hfr : ∀ g ∈ (rs.getD (kk - 1) dRq).F, w1.heap.size ≤ g := fun g hg => (ho3.rf _ hm g hg).1
  have hk14 : Kept [] w1 w4 := (hk2.then hk3 (by simp)).then hk4 (fun g hg => .inr (hfr g hg))
  have hL4 : RowsT w4 lv (encP kk nn B s) := by
    rw [← hxl]
    refine (Out.keptB hol hk4 fun g hg hm' => ?_).rows
    have h1 : g < w2.heap.size := (ho2.ok _ hm).lt g hm'
    have h2 : w2.heap.size ≤ g := by
      rcases List.mem_append.1 hg with hg | hg
      · exact hol.fresh g hg
      · obtain ⟨r, hr, hgr⟩ := List.mem_flatMap.1 hg
        exact (hol.rf r hr g hgr).1
    omega
  have hk04 := hkc.then hk14 (by simp)
  refine encG (hC.kept0 hk14) hR4 (by rw [turnB_len, hBl]) (turnB_rows hBr (by omega)) (by omega) fun mv w5 hM5 hk5 => ?_
  simp only [xP_ex0, xP_ex1]
  have hL5 := hL4.kept0 hk5
  have hk05 := hk04.then hk5 (by simp)
  refine xJoin_of (fun ls w' => ls = [.bool false] ∧ w5 = w') ?_ ?_
  · refine (xR_neqN IFE).2 ?_
    simp only [xIf_false]
    refine (xR_neqN IFE).2 ?_
    simp only [xIf_false]
    refine (rowsLen hL5).2 ?_
    rw [encP_len]
    simp only [xP_nil, xP_pick, xP_func, xP_not, xP_add, xP_sub, xP_mul, xP_lss, xP_leq, xP_gtr, xP_geq, xP_max2, xP_min2, xR_eql, xR_neq, Nat.zero_add, Nat.add_zero, Nat.reduceAdd, List.getD_cons_zero, List.getD_cons_succ, xIf_true, xIf_false, FA_35_0, FA_35_1, FA_66_0, FA_66_1, FA_66_2, FA_82_0, FA_82_1, FA_82_2, FA_86_0, FA_86_1, LEN_29, LEN_32, LEN_47, LEN_48, LEN_79, LEN_116, ne_eq, not_true_eq_false, decide_false]
    refine (rowsLen hM5).2 ?_
    rw [encP_len]
    simp only [xP_nil, xP_pick, xP_func, xP_not, xP_add, xP_sub, xP_mul, xP_lss, xP_leq, xP_gtr, xP_geq, xP_max2, xP_min2, xR_eql, xR_neq, Nat.zero_add, Nat.add_zero, Nat.reduceAdd, List.getD_cons_zero, List.getD_cons_succ, xIf_true, xIf_false, FA_35_0, FA_35_1, FA_66_0, FA_66_1, FA_66_2, FA_82_0, FA_82_1, FA_82_2, FA_86_0, FA_86_1, LEN_29, LEN_32, LEN_47, LEN_48, LEN_79, LEN_116, ne_eq, not_true_eq_false, decide_false]
    exact ⟨by trivial, by trivial⟩
  rintro _ _ _ ⟨rfl, rfl⟩
  simp only [List.getD_cons_zero, xIf_false]
  refine (rowsLen hL5).2 ?_
  rw [encP_len]
  refine xLoop_of (fun ls w' => ∃ t : Nat, ls = [.int .i64 t] ∧ t ≤ nn ∧ Kept [] w5 w') (fun ls _ => match ls with | [.int _ i] => nn - i.toNat | _ => 0) ⟨0, rfl, by omega, Kept.refl _ _⟩ ?_
  rintro _ _ w10 ⟨t, rfl, ht, hk10⟩
  simp only [xP_nil, xP_pick, xP_func, xP_not, xP_add, xP_sub, xP_mul, xP_lss, xP_leq, xP_gtr, xP_geq, xP_max2, xP_min2, xR_eql, xR_neq, Nat.zero_add, Nat.add_zero, Nat.reduceAdd, List.getD_cons_zero, List.getD_cons_succ, xIf_true, xIf_false, FA_35_0, FA_35_1, FA_66_0, FA_66_1, FA_66_2, FA_82_0, FA_82_1, FA_82_2, FA_86_0, FA_86_1, LEN_29, LEN_32, LEN_47, LEN_48, LEN_79, LEN_116, xIf_dec]
  refine ⟨fun hlt => ?_, fun hge => ?_⟩
  · have htn : t < nn := by omega
    refine hL5.get rowW hk10 (by rw [encP_len]; exact htn) fun u hu => ?_
    rw [encP_get htn] at hu
    refine (bytesLen hu).2 ?_
    rw [mixP_len]
    refine xLoop_of (fun ls w' => ∃ j : Nat, ls = [.int .i64 j] ∧ j ≤ s ∧ Kept [] w5 w') (fun ls _ => match ls with | [.int _ j] => s - j.toNat | _ => 0) ⟨0, rfl, by omega, hk10⟩ ?_
    rintro _ _ w11 ⟨j, rfl, hj, hk11⟩
    try simp only [xP_nil, xP_pick, xP_func, xP_not, xP_add, xP_sub, xP_mul, xP_lss, xP_leq, xP_gtr, xP_geq, xP_max2, xP_min2, xR_eql, xR_neq, Nat.zero_add, Nat.add_zero, Nat.reduceAdd, List.getD_cons_zero, List.getD_cons_succ, xIf_true, xIf_false, FA_35_0, FA_35_1, FA_66_0, FA_66_1, FA_66_2, FA_82_0, FA_82_1, FA_82_2, FA_86_0, FA_86_1, LEN_29, LEN_32, LEN_47, LEN_48, LEN_79, LEN_116, xIf_dec]
    refine ⟨fun hlj => ?_, fun hgj => ?_⟩
    · have hjs : j < s := by omega
      have hd := hk11.then (kept_drew [] w11) (by simp)
      have hmix := turn_mix (k := kk) (i := t) (s := s) (t := kk - 1) (p := pp) (y := j) (B := B) (x := x) hBl hlast (by rw [hrowl]; exact hps) hjs
      refine xJoin_of (fun ls w' => ls = [.bool false] ∧ Kept [] w5 w') ?_ ?_
      · refine ⟨fun hne => ?_, fun heq => ?_⟩
        · rw [if_neg (show ¬ j = pp by omega), xor_zero8] at hmix
          refine cellAt hL5 hd (by rw [encP_len]; exact htn) (by rw [encP_get htn, mixP_len]; exact hjs) ?_
          refine cellAt hM5 hd (by rw [encP_len]; exact htn) (by rw [encP_get htn, mixP_len]; exact hjs) ?_
          rw [encP_get htn, encP_get htn, hmix]
          simp only [xP_nil, xP_pick, xP_func, xP_not, xP_add, xP_sub, xP_mul, xP_lss, xP_leq, xP_gtr, xP_geq, xP_max2, xP_min2, xR_eql, xR_neq, Nat.zero_add, Nat.add_zero, Nat.reduceAdd, List.getD_cons_zero, List.getD_cons_succ, xIf_true, xIf_false, FA_35_0, FA_35_1, FA_66_0, FA_66_1, FA_66_2, FA_82_0, FA_82_1, FA_82_2, FA_86_0, FA_86_1, LEN_29, LEN_32, LEN_47, LEN_48, LEN_79, LEN_116, ne_eq, not_true_eq_false, decide_false, xIf_dec]
          exact ⟨fun h => absurd h (by omega), fun _ => ⟨by trivial, hd⟩⟩
        · simp only [ne_eq, Decidable.not_not] at heq
          have hjp : j = pp := by omega
          rw [if_pos hjp] at hmix
          refine ⟨fun _ => ?_, fun h => absurd heq h⟩
          refine ⟨fun hti => ?_, fun _ => ⟨by trivial, hd⟩⟩
          refine cellAt hL5 hd (by rw [encP_len]; exact htn) (by rw [encP_get htn, mixP_len]; exact hjs) ?_
          refine cellAt hM5 hd (by rw [encP_len]; exact htn) (by rw [encP_get htn, mixP_len]; exact hjs) ?_
          rw [encP_get htn, encP_get htn, hmix]
          simp only [xP_nil, xP_pick, xP_func, xP_not, xP_add, xP_sub, xP_mul, xP_lss, xP_leq, xP_gtr, xP_geq, xP_max2, xP_min2, xR_eql, xR_neq, Nat.zero_add, Nat.add_zero, Nat.reduceAdd, List.getD_cons_zero, List.getD_cons_succ, xIf_true, xIf_false, FA_35_0, FA_35_1, FA_66_0, FA_66_1, FA_66_2, FA_82_0, FA_82_1, FA_82_2, FA_86_0, FA_86_1, LEN_29, LEN_32, LEN_47, LEN_48, LEN_79, LEN_116]
          refine (xR_neqBool CBO).2 ?_
          refine ⟨?_, hd⟩
          have hc := coef_ne (k := kk) (i := t) (t := kk - 1) hlast (by omega) (by omega) (by omega)
          have e1 : ∀ a : UInt8, ((a.toNat : Int) = (a ^^^ umul (coef kk t (kk - 1)) x).toNat) ↔ ((x.toNat : Int) = 0) := fun a => by
            rw [u8_eq, u8_zero]
            constructor
            · intro h
              have : a ^^^ (a ^^^ umul (coef kk t (kk - 1)) x) = 0 := xor_eq_zero8.2 h
              rw [← xor_assoc8, xor_self8, zero_xor8] at this
              exact umul_eq_zero hc this
            · intro h
              rw [h, umul_zero, xor_zero8]
          have e2 : ∀ a : UInt8, decide ((a.toNat : Int) = (a ^^^ umul (coef kk t (kk - 1)) x).toNat) = decide ((x.toNat : Int) = 0) := fun a => decide_eq_decide.2 (e1 a)
          rw [e2]
          simp
      rintro _ _ w12 ⟨rfl, hk12⟩
      simp only [List.getD_cons_zero, xIf_false, xP_nil, xP_pick, xP_func, xP_not, xP_add, xP_sub, xP_mul, xP_lss, xP_leq, xP_gtr, xP_geq, xP_max2, xP_min2, xR_eql, xR_neq, Nat.zero_add, Nat.add_zero, Nat.reduceAdd, List.getD_cons_zero, List.getD_cons_succ, xIf_true, xIf_false, FA_35_0, FA_35_1, FA_66_0, FA_66_1, FA_66_2, FA_82_0, FA_82_1, FA_82_2, FA_86_0, FA_86_1, LEN_29, LEN_32, LEN_47, LEN_48, LEN_79, LEN_116]
      rw [wrap64 (by omega) (by omega)]
      exact ⟨⟨j + 1, rfl, by omega, hk12⟩, by omega⟩
    · try simp only [xP_nil, xP_pick, xP_func, xP_not, xP_add, xP_sub, xP_mul, xP_lss, xP_leq, xP_gtr, xP_geq, xP_max2, xP_min2, xR_eql, xR_neq, Nat.zero_add, Nat.add_zero, Nat.reduceAdd, List.getD_cons_zero, List.getD_cons_succ, xIf_true, xIf_false, FA_35_0, FA_35_1, FA_66_0, FA_66_1, FA_66_2, FA_82_0, FA_82_1, FA_82_2, FA_86_0, FA_86_1, LEN_29, LEN_32, LEN_47, LEN_48, LEN_79, LEN_116]
      rw [wrap64 (by omega) (by omega)]
      exact ⟨⟨t + 1, rfl, by omega, hk11⟩, by omega⟩
  · exact cRunsG hg (hk05.then hk10 (by simp))
end Go.Proofs.YtoanmeohlpdjfaaDoor
