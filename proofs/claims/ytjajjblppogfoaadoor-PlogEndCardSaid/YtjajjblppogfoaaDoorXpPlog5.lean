import Derived.Test.YtjajjblppogfoaaDoorXpPlog4
namespace Go.Proofs.YtjajjblppogfoaaDoor
set_option linter.unusedSimpArgs false
set_option linter.unusedVariables false
set_option maxRecDepth 100000
attribute [local irreducible] Go.X.xE
open Go Go.X Go.RowKit

/-! ## PlogEnd -/
theorem pend_ok {back : Int} {l : List Int} {v : Value} {w : World} (hgl : Glob w) (hl : SlT w encI v l) :
    Gives Tryd.prog 8 #[.int .i64 back, v] w fun u w' => u = .bool true ∧ Kept [] w w' := by
  refine C_stavelaw17_PlogEnd ?_
  unfold S_stavelaw17_PlogEnd
  obtain ⟨la, lc, rfl, hlc, hlr⟩ := hl
  have hl : SlT w encI (.slice la l.length lc) l := ⟨la, lc, rfl, hlc, hlr⟩
  refine xE_call CF_21 (within_ok (by omega) (by omega) (by omega)) ?_
  rintro _ _ ⟨rfl, rfl⟩
  obtain ⟨wb1, wb2⟩ := within_bd (n := back) (lo := 0) (hi := 30) (by omega)
  generalize within back 0 30 = k at *
  refine xP_sub.2 ?_
  rw [wrap64 (by omega) (by omega)]
  refine newLS (by omega) (by omega) fun p w1 h1 => ?_
  have k1 := Lg.ok0 (n := 9223372036854775807 - k) (by omega) (by omega)
  simp only [xP_ex0, xP_ex1]
  refine xJoin_of (fun ls w' => ls = [.bool false] ∧ w1 = w') ?_ ?_
  · refine (xR_pnil PT_46).2 ?_
    simp only [Option.isNone_some, xIf_false]
    refine (xR_neqN IFE).2 ?_
    exact ⟨rfl, trivial⟩
  rintro _ _ _ ⟨rfl, rfl⟩
  simp only [List.getD_cons_zero, xIf_false]
  refine xLoop_of (fun ls w' => ∃ (i : Nat) (left : Int) (L : Lg), ls = [.int .i64 left, .int .i64 i] ∧ i ≤ l.length ∧ i ≤ 20 ∧ 0 ≤ left ∧ left ≤ 30 ∧ L.Ok ∧ L.hs.length ≤ i ∧ L.next = 9223372036854775807 - left ∧ PS w w' p L)
    (fun ls _ => match ls with | [_, .int _ i] => 20 - i.toNat | _ => 0) ⟨0, k, _, rfl, by omega, by omega, wb1, wb2, k1, by simp, rfl, h1⟩ ?_
  rintro _ _ w2 ⟨i, left, L, rfl, hi, hi20, hl0, hl30, hok, hlen, hnext, hps⟩
  have hk2 := hps.k0
  refine xJoin_of (fun ls w' => ls = [.bool (decide (i < l.length ∧ i < 20))] ∧ w2 = w') ?_ ?_
  · simp only [xP_nil, xP_pick, xP_func, xP_not, xP_add, xP_sub, xP_mul, xP_lss, xP_leq, xP_gtr, xP_geq, xP_max2, xP_min2, xR_eql, xR_neq, Nat.zero_add, Nat.add_zero, Nat.reduceAdd, List.getD_cons_zero, List.getD_cons_succ, xIf_true, xIf_false, FA_40_0, FA_40_1, FA_64_0, FA_64_1, FA_64_2, FA_67_0, FA_67_1, FA_67_2, FA_67_3, FA_75_0, FA_75_1, FA_75_2, FA_75_3, FA_82_0, FA_82_1, FA_82_2, FA_96_0, FA_96_1, FA_96_2, FA_123_0, FA_123_1, FA_123_2, LEN_34, LEN_38, LEN_51, LEN_56, LEN_60, LEN_65, LEN_83, LEN_88, xIf_dec]
    refine ⟨fun h1 => ⟨by rw [decide_eq_decide.2 (show ((i : Int) < 20) ↔ (i < l.length ∧ i < 20) by omega)], trivial⟩, fun h1 => ⟨by rw [decide_eq_false (show ¬ (i < l.length ∧ i < 20) by omega)], trivial⟩⟩
  rintro _ _ _ ⟨rfl, rfl⟩
  simp only [List.getD_cons_zero, List.getD_cons_succ, xIf_dec]
  refine ⟨fun hgo => ?_, fun hstop => ?_⟩
  · refine xJoin_of (fun ls w' => ∃ (left : Int) (L : Lg), ls = [.int .i64 left] ∧ 0 ≤ left ∧ left ≤ 30 ∧ L.Ok ∧ L.hs.length ≤ i + 1 ∧ L.next = 9223372036854775807 - left ∧ PS w w' p L) ?_ ?_
    · refine (rowInt.get hl hk2 hgo.1).2 ?_
      refine xE_call CF_21 (within_ok (by omega) (by omega) (by omega)) ?_
      rintro _ _ ⟨rfl, rfl⟩
      obtain ⟨wn1, wn2⟩ := within_bd (n := l[i]'hgo.1) (lo := 1) (hi := 8) (by omega)
      generalize within (l[i]'hgo.1) 1 8 = n at *
      refine addLS hps hok (by omega) fun w3 h3 => ?_
      have hbad : addBad n 0 0 0 = false := by unfold addBad; exact decide_eq_false (by omega)
      have hadd : L.addK n 0 0 0 = if 9223372036854775807 - L.next < n then 13 else 0 := by unfold Lg.addK; rw [hbad]; rfl
      have hok3 := Lg.add_ok hok n 0 0 0
      have hlen3 := Lg.add_len L n 0 0 0
      simp only [xP_ex0, xP_ex1, xP_gtr, xIf_dec]
      refine ⟨fun hbig => ?_, fun hfit => ?_⟩
      · have ha : L.addK n 0 0 0 = 13 := by rw [hadd, if_pos (by omega)]
        have hL : L.add n 0 0 0 = L := by unfold Lg.add; rw [ha]; rfl
        rw [ha] at *
        rw [hL] at h3
        simp only [show ((13 : Int) = 0) = False by simp, if_false]
        refine xJoin_of (fun ls w' => ls = [.bool false] ∧ Kept [] w3 w') ?_ ?_
        · refine kindOp (op := opPA) (k := 13) (hgl.kept0 h3.k0) fun w4 hk4 => ?_
          simp only [xR_neq, ne_eq, not_true_eq_false, decide_false, xIf_false]
          refine nextLS (h3.next hk4) ?_
          simp only [xP_nil, xP_pick, xP_func, xP_not, xP_add, xP_sub, xP_mul, xP_lss, xP_leq, xP_gtr, xP_geq, xP_max2, xP_min2, xR_eql, xR_neq, Nat.zero_add, Nat.add_zero, Nat.reduceAdd, List.getD_cons_zero, List.getD_cons_succ, xIf_true, xIf_false, FA_40_0, FA_40_1, FA_64_0, FA_64_1, FA_64_2, FA_67_0, FA_67_1, FA_67_2, FA_67_3, FA_75_0, FA_75_1, FA_75_2, FA_75_3, FA_82_0, FA_82_1, FA_82_2, FA_96_0, FA_96_1, FA_96_2, FA_123_0, FA_123_1, FA_123_2, LEN_34, LEN_38, LEN_51, LEN_56, LEN_60, LEN_65, LEN_83, LEN_88]
          rw [wrap64 (by omega) (by omega)]
          rw [decide_eq_false (by omega)]
          exact ⟨rfl, hk4⟩
        rintro _ _ w4 ⟨rfl, hk4⟩
        simp only [List.getD_cons_zero, xIf_false]
        exact ⟨left, L, rfl, hl0, hl30, hok, by omega, hnext, h3.next hk4⟩
      · have ha : L.addK n 0 0 0 = 0 := by rw [hadd, if_neg (by omega)]
        have hL : L.add n 0 0 0 = ⟨L.hs ++ [⟨L.next, n, 0, 0, 0⟩], L.start, L.next + n⟩ := by unfold Lg.add; rw [ha]; rfl
        rw [ha] at *
        simp only [if_true]
        refine xJoin_of (fun ls w' => ls = [.bool false] ∧ w3 = w') ?_ ?_
        · refine optV_neq.2 ?_
          simp only [erOp, if_true, Option.isSome_none, xIf_false, xP_nil, xP_pick, xP_func, xP_not, xP_add, xP_sub, xP_mul, xP_lss, xP_leq, xP_gtr, xP_geq, xP_max2, xP_min2, xR_eql, xR_neq, Nat.zero_add, Nat.add_zero, Nat.reduceAdd, List.getD_cons_zero, List.getD_cons_succ, xIf_true, xIf_false, FA_40_0, FA_40_1, FA_64_0, FA_64_1, FA_64_2, FA_67_0, FA_67_1, FA_67_2, FA_67_3, FA_75_0, FA_75_1, FA_75_2, FA_75_3, FA_82_0, FA_82_1, FA_82_2, FA_96_0, FA_96_1, FA_96_2, FA_123_0, FA_123_1, FA_123_2, LEN_34, LEN_38, LEN_51, LEN_56, LEN_60, LEN_65, LEN_83, LEN_88]
          rw [wrap64 (by omega) (by omega)]
          rw [decide_eq_false (by omega)]
          exact ⟨rfl, trivial⟩
        rintro _ _ _ ⟨rfl, rfl⟩
        simp only [List.getD_cons_zero, xIf_false, xP_nil, xP_pick, xP_func, xP_not, xP_add, xP_sub, xP_mul, xP_lss, xP_leq, xP_gtr, xP_geq, xP_max2, xP_min2, xR_eql, xR_neq, Nat.zero_add, Nat.add_zero, Nat.reduceAdd, List.getD_cons_zero, List.getD_cons_succ, xIf_true, xIf_false, FA_40_0, FA_40_1, FA_64_0, FA_64_1, FA_64_2, FA_67_0, FA_67_1, FA_67_2, FA_67_3, FA_75_0, FA_75_1, FA_75_2, FA_75_3, FA_82_0, FA_82_1, FA_82_2, FA_96_0, FA_96_1, FA_96_2, FA_123_0, FA_123_1, FA_123_2, LEN_34, LEN_38, LEN_51, LEN_56, LEN_60, LEN_65, LEN_83, LEN_88]
        rw [wrap64 (by omega) (by omega)]
        exact ⟨left - n, _, rfl, by omega, by omega, hok3, by omega, by rw [hL]; show L.next + n = _; omega, h3⟩
    rintro _ _ w3 ⟨left', L', rfl, a1, a2, a3, a4, a5, a6⟩
    simp only [xP_nil, xP_pick, xP_func, xP_not, xP_add, xP_sub, xP_mul, xP_lss, xP_leq, xP_gtr, xP_geq, xP_max2, xP_min2, xR_eql, xR_neq, Nat.zero_add, Nat.add_zero, Nat.reduceAdd, List.getD_cons_zero, List.getD_cons_succ, xIf_true, xIf_false, FA_40_0, FA_40_1, FA_64_0, FA_64_1, FA_64_2, FA_67_0, FA_67_1, FA_67_2, FA_67_3, FA_75_0, FA_75_1, FA_75_2, FA_75_3, FA_82_0, FA_82_1, FA_82_2, FA_96_0, FA_96_1, FA_96_2, FA_123_0, FA_123_1, FA_123_2, LEN_34, LEN_38, LEN_51, LEN_56, LEN_60, LEN_65, LEN_83, LEN_88, List.getD_cons_zero]
    rw [wrap64 (by omega) (by omega)]
    exact ⟨⟨i + 1, left', L', rfl, by omega, by omega, a1, a2, a3, a4, a5, a6⟩, by omega⟩
  · refine nextLS hps ?_
    simp only [xP_nil, xP_pick, xP_func, xP_not, xP_add, xP_sub, xP_mul, xP_lss, xP_leq, xP_gtr, xP_geq, xP_max2, xP_min2, xR_eql, xR_neq, Nat.zero_add, Nat.add_zero, Nat.reduceAdd, List.getD_cons_zero, List.getD_cons_succ, xIf_true, xIf_false, FA_40_0, FA_40_1, FA_64_0, FA_64_1, FA_64_2, FA_67_0, FA_67_1, FA_67_2, FA_67_3, FA_75_0, FA_75_1, FA_75_2, FA_75_3, FA_82_0, FA_82_1, FA_82_2, FA_96_0, FA_96_1, FA_96_2, FA_123_0, FA_123_1, FA_123_2, LEN_34, LEN_38, LEN_51, LEN_56, LEN_60, LEN_65, LEN_83, LEN_88]
    rw [wrap64 (by omega) (by omega), decide_eq_true (by omega)]
    simp only [xIf_true]
    exact pRunsG hgl hk2
end Go.Proofs.YtjajjblppogfoaaDoor
