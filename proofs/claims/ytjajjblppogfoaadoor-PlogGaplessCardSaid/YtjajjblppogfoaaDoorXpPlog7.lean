import Derived.Test.YtjajjblppogfoaaDoorXpPlog4
namespace Go.Proofs.YtjajjblppogfoaaDoor
set_option linter.unusedSimpArgs false
set_option linter.unusedVariables false
set_option maxRecDepth 100000
attribute [local irreducible] Go.X.xE
open Go Go.X Go.RowKit

/-! ## PlogTimes -/
theorem from_start {L : Lg} (hok : L.Ok) : L.fromK L.start = 0 ∧ L.from L.start = L.hs := by
  have hsn := hok.sn
  have h1 : L.fromK L.start = 0 := if_neg (by omega)
  refine ⟨h1, ?_⟩
  unfold Lg.from
  rw [h1]
  simp only [if_true]
  unfold Lg.seek
  cases hl : L.hs with
  | nil => simp
  | cons y ys =>
    have hf := hok.first y (by rw [hl]; rfl)
    have : has L.start y = true := decide_eq_true (by omega)
    rw [List.findIdx_cons, this]
    rfl
/-- What At answers, against what From gives there. -/
theorem at_props {L : Lg} (hok : L.Ok) (t : Int) : L.start ≤ L.at t ∧ L.at t ≤ L.next ∧ L.fromK (L.at t) = 0 ∧ L.from (L.at t) = L.hs.drop (L.olderN t) ∧ (L.hs.length ≤ L.olderN t → L.at t = L.next) := by
  have hsn := hok.sn
  have hb : L.start ≤ L.at t ∧ L.at t ≤ L.next := by
    unfold Lg.at
    cases hx : L.hs[L.olderN t]? with
    | none => simp only; omega
    | some x =>
      have := hok.gap.end_le (List.mem_of_getElem? hx)
      have := hok.gap.1 x (List.mem_of_getElem? hx)
      simp only
      omega
  have h1 : L.fromK (L.at t) = 0 := if_neg (by omega)
  refine ⟨hb.1, hb.2, h1, ?_, fun hge => ?_⟩
  · unfold Lg.from
    rw [h1]
    simp only [if_true]
    unfold Lg.seek
    congr 1
    have hol : L.olderN t ≤ L.hs.length := List.findIdx_le_length
    -- the first head that has what At answers
    rcases Nat.lt_or_ge (L.olderN t) L.hs.length with hlt | hge
    · have hx : L.hs[L.olderN t]? = some L.hs[L.olderN t] := List.getElem?_eq_getElem hlt
      have hat : L.at t = max L.start (L.hs[L.olderN t]).base := by unfold Lg.at; rw [hx]
      have hr := hok.gap.1 _ (List.getElem_mem hlt)
      rw [List.findIdx_eq hlt]
      constructor
      · unfold has
        refine decide_eq_true ?_
        rw [hat]
        rcases Nat.eq_zero_or_pos (L.olderN t) with h0 | h0
        · have hx0 : L.hs[0]? = some L.hs[L.olderN t] := by rw [← hx, h0]
          have := hok.first _ hx0
          omega
        · have hy : L.hs[0]? = some (L.hs[0]'(by omega)) := List.getElem?_eq_getElem (by omega)
          have h2 := hok.gap.le (L.olderN t) 0 _ _ h0 hy hx
          have h3 := hok.first _ hy
          omega
      · intro j hj
        unfold has
        refine decide_eq_false ?_
        have hy : L.hs[j]? = some (L.hs[j]'(by omega)) := List.getElem?_eq_getElem (by omega)
        have h2 := hok.gap.le (L.olderN t) j _ _ hj hy hx
        rw [hat]
        omega
    · have e : L.olderN t = L.hs.length := by omega
      have hat : L.at t = L.next := by unfold Lg.at; rw [List.getElem?_eq_none (by omega)]
      rw [e, List.findIdx_eq_length]
      intro x hx
      unfold has
      refine decide_eq_false ?_
      have := hok.gap.end_le hx
      rw [hat]
      omega
  · unfold Lg.at; rw [List.getElem?_eq_none (by omega)]
theorem ptimes_ok {time trim : Int} {l : List Int} {v : Value} {w : World} (hgl : Glob w) (hl : SlT w encI v l) :
    Gives Tryd.prog 10 #[v, .int .i64 time, .int .i64 trim] w fun u w' => u = .bool true ∧ Kept [] w w' := by
  refine C_stavelaw17_PlogTimes ?_
  unfold S_stavelaw17_PlogTimes
  obtain ⟨la, lc, rfl, hlc, hlr⟩ := hl
  have hl : SlT w encI (.slice la l.length lc) l := ⟨la, lc, rfl, hlc, hlr⟩
  refine newLS (by omega) (by omega) fun p w1 h1 => ?_
  have k1 := Lg.ok0 (n := 0) (by omega) (by omega)
  simp only [xP_ex0, xP_ex1]
  refine xJoin_of (fun ls w' => ls = [.bool false] ∧ w1 = w') ?_ ?_
  · refine (xR_pnil PT_46).2 ?_
    simp only [Option.isNone_some, xIf_false]
    refine (xR_neqN IFE).2 ?_
    exact ⟨rfl, trivial⟩
  rintro _ _ _ ⟨rfl, rfl⟩
  simp only [List.getD_cons_zero, xIf_false]
  refine xLoop_of (fun ls w' => ∃ (i : Nat) (L : Lg), ls = [.int .i64 i] ∧ i ≤ l.length ∧ i ≤ 20 ∧ L.Ok ∧ L.hs.length ≤ i ∧ L.next ≤ 8 * (i : Int) ∧ PS w w' p L)
    (fun ls _ => match ls with | [.int _ i] => 20 - i.toNat | _ => 0) ⟨0, _, rfl, by omega, by omega, k1, by simp, by simp, h1⟩ ?_
  rintro _ _ w2 ⟨i, L, rfl, hi, hi20, hok, hlen, hnext, hps⟩
  have hk2 := hps.k0
  refine xJoin_of (fun ls w' => ls = [.bool (decide (i < l.length ∧ i < 20))] ∧ w2 = w') ?_ ?_
  · simp only [xP_nil, xP_pick, xP_func, xP_not, xP_add, xP_sub, xP_mul, xP_lss, xP_leq, xP_gtr, xP_geq, xP_max2, xP_min2, xR_eql, xR_neq, Nat.zero_add, Nat.add_zero, Nat.reduceAdd, List.getD_cons_zero, List.getD_cons_succ, xIf_true, xIf_false, FA_40_0, FA_40_1, FA_64_0, FA_64_1, FA_64_2, FA_67_0, FA_67_1, FA_67_2, FA_67_3, FA_75_0, FA_75_1, FA_75_2, FA_75_3, FA_82_0, FA_82_1, FA_82_2, FA_96_0, FA_96_1, FA_96_2, FA_123_0, FA_123_1, FA_123_2, LEN_34, LEN_38, LEN_51, LEN_56, LEN_60, LEN_65, LEN_83, LEN_88, xIf_dec]
    refine ⟨fun h1 => ⟨by rw [decide_eq_decide.2 (show ((i : Int) < 20) ↔ (i < l.length ∧ i < 20) by omega)], trivial⟩, fun h1 => ⟨by rw [decide_eq_false (show ¬ (i < l.length ∧ i < 20) by omega)], trivial⟩⟩
  rintro _ _ _ ⟨rfl, rfl⟩
  simp only [List.getD_cons_zero, xIf_dec]
  refine ⟨fun hgo => ?_, fun hstop => ?_⟩
  · refine (xP_rem (by omega)).2 ?_
    have hm : (i : Int).tmod 3 = (i : Int) % 3 := Int.tmod_eq_emod_of_nonneg (by omega)
    rw [hm]
    refine xP_add.2 ?_
    rw [wrap64 (by omega) (by omega)]
    refine (rowInt.get hl hk2 hgo.1).2 ?_
    refine xE_call CF_21 (within_ok (by omega) (by omega) (by omega)) ?_
    rintro _ _ ⟨rfl, rfl⟩
    obtain ⟨wn1, wn2⟩ := within_bd (n := l[i]'hgo.1) (lo := 0) (hi := 30) (by omega)
    generalize within (l[i]'hgo.1) 0 30 = m at *
    obtain ⟨c, hc⟩ : ∃ c : Int, c = 1 + (i : Int) % 3 := ⟨_, rfl⟩
    rw [← hc]
    have hk : L.addK c m i 0 = 0 := by
      unfold Lg.addK
      rw [show addBad c m i 0 = false from decide_eq_false (by omega)]
      simp only [Bool.false_eq_true, if_false]
      rw [if_neg (by omega)]
    have hL : L.add c m i 0 = ⟨L.hs ++ [⟨L.next, c, m, i, 0⟩], L.start, L.next + c⟩ := by unfold Lg.add; rw [hk]; rfl
    refine addLS hps hok (by omega) fun w3 h3 => ?_
    have hok3 := Lg.add_ok hok c m i 0
    have hlen3 := Lg.add_len L c m i 0
    rw [hk]
    simp only [xP_ex0, xP_ex1]
    refine optV_neq.2 ?_
    simp only [erOp, if_true, Option.isSome_none, xIf_false, xP_nil, xP_pick, xP_func, xP_not, xP_add, xP_sub, xP_mul, xP_lss, xP_leq, xP_gtr, xP_geq, xP_max2, xP_min2, xR_eql, xR_neq, Nat.zero_add, Nat.add_zero, Nat.reduceAdd, List.getD_cons_zero, List.getD_cons_succ, xIf_true, xIf_false, FA_40_0, FA_40_1, FA_64_0, FA_64_1, FA_64_2, FA_67_0, FA_67_1, FA_67_2, FA_67_3, FA_75_0, FA_75_1, FA_75_2, FA_75_3, FA_82_0, FA_82_1, FA_82_2, FA_96_0, FA_96_1, FA_96_2, FA_123_0, FA_123_1, FA_123_2, LEN_34, LEN_38, LEN_51, LEN_56, LEN_60, LEN_65, LEN_83, LEN_88]
    rw [wrap64 (by omega) (by omega)]
    exact ⟨⟨i + 1, _, rfl, by omega, by omega, hok3, by omega, by rw [hL]; show L.next + c ≤ _; omega, h3⟩, by omega⟩
  have hnn : L.next ≤ 1000 := by omega
  have hs0 := hok.s0; have hsn := hok.sn
  refine nextLS hps ?_
  refine xE_call CF_21 (within_ok (by omega) (by omega) (by omega)) ?_
  rintro _ _ ⟨rfl, rfl⟩
  obtain ⟨wo1, wo2⟩ := within_bd (n := trim) (lo := 0) (hi := L.next) (by omega)
  generalize within trim 0 L.next = a at *
  refine trimLS hps hok (by omega) fun w3 h3 => ?_
  have hk3 : L.trimK a = 0 := if_pos ⟨wo1, wo2⟩
  have hok3 := Lg.trim_ok hok a
  have hlen3 := Lg.trim_len L a
  rw [hk3]
  generalize L.trim a = M at *
  refine optV_neq.2 ?_
  simp only [erOp, if_true, Option.isSome_none, xIf_false]
  refine xE_call CF_21 (within_ok (by omega) (by omega) (by omega)) ?_
  rintro _ _ ⟨rfl, rfl⟩
  generalize within time 0 31 = t at *
  refine atLS h3 (by omega) fun w4 hk4 => ?_
  have h4 := h3.next hk4
  obtain ⟨p1, p2, p3, p4, p5⟩ := at_props hok3 t
  obtain ⟨q1, q2⟩ := from_start hok3
  have hol : M.olderN t ≤ M.hs.length := List.findIdx_le_length
  refine xJoin_of (fun ls w' => ls = [.bool false] ∧ w4 = w') ?_ ?_
  · refine startLS h4 ?_
    simp only [xP_nil, xP_pick, xP_func, xP_not, xP_add, xP_sub, xP_mul, xP_lss, xP_leq, xP_gtr, xP_geq, xP_max2, xP_min2, xR_eql, xR_neq, Nat.zero_add, Nat.add_zero, Nat.reduceAdd, List.getD_cons_zero, List.getD_cons_succ, xIf_true, xIf_false, FA_40_0, FA_40_1, FA_64_0, FA_64_1, FA_64_2, FA_67_0, FA_67_1, FA_67_2, FA_67_3, FA_75_0, FA_75_1, FA_75_2, FA_75_3, FA_82_0, FA_82_1, FA_82_2, FA_96_0, FA_96_1, FA_96_2, FA_123_0, FA_123_1, FA_123_2, LEN_34, LEN_38, LEN_51, LEN_56, LEN_60, LEN_65, LEN_83, LEN_88]
    rw [decide_eq_false (by omega)]
    simp only [xIf_false]
    refine nextLS h4 ?_
    simp only [xP_nil, xP_pick, xP_func, xP_not, xP_add, xP_sub, xP_mul, xP_lss, xP_leq, xP_gtr, xP_geq, xP_max2, xP_min2, xR_eql, xR_neq, Nat.zero_add, Nat.add_zero, Nat.reduceAdd, List.getD_cons_zero, List.getD_cons_succ, xIf_true, xIf_false, FA_40_0, FA_40_1, FA_64_0, FA_64_1, FA_64_2, FA_67_0, FA_67_1, FA_67_2, FA_67_3, FA_75_0, FA_75_1, FA_75_2, FA_75_3, FA_82_0, FA_82_1, FA_82_2, FA_96_0, FA_96_1, FA_96_2, FA_123_0, FA_123_1, FA_123_2, LEN_34, LEN_38, LEN_51, LEN_56, LEN_60, LEN_65, LEN_83, LEN_88]
    rw [decide_eq_false (by omega)]
    exact ⟨rfl, trivial⟩
  rintro _ _ _ ⟨rfl, rfl⟩
  simp only [List.getD_cons_zero, xIf_false]
  refine startLS h4 ?_
  refine fromLS h4 hok3 (by omega) fun av w5 ha5 hk5 _ => ?_
  have h5 := h4.next hk5
  simp only [xP_ex0, xP_ex1]
  refine fromLS h5 hok3 (by omega) fun bv w6 hb6 hk6 _ => ?_
  have h6 := h5.next hk6
  have ha6 := ha5.kept0 hk6
  rw [q2] at ha6
  rw [p4] at hb6
  rw [q1, p3]
  simp only [xP_ex0, xP_ex1]
  refine xJoin_of (fun ls w' => ls = [.bool false] ∧ w6 = w') ?_ ?_
  · refine optV_neq.2 ?_
    simp only [erOp, if_true, Option.isSome_none, xIf_false]
    refine optV_neq.2 ?_
    exact ⟨rfl, trivial⟩
  rintro _ _ _ ⟨rfl, rfl⟩
  simp only [List.getD_cons_zero, xIf_false]
  obtain ⟨aa, ac, rfl, r1, r2⟩ := ha6
  have ha6 : SlT w6 encH (.slice aa M.hs.length ac) M.hs := ⟨aa, ac, rfl, r1, r2⟩
  have hbl : (M.hs.drop (M.olderN t)).length = M.hs.length - M.olderN t := List.length_drop
  obtain ⟨ba, bc, rfl, s1, s2⟩ := hb6
  have hb6 : SlT w6 encH (.slice ba (M.hs.drop (M.olderN t)).length bc) (M.hs.drop (M.olderN t)) := ⟨ba, bc, rfl, s1, s2⟩
  refine xLoop_of (fun ls w' => ∃ i : Nat, ls = [.int .i64 i] ∧ i ≤ M.olderN t ∧ w6 = w') (fun ls _ => match ls with | [.int _ i] => M.olderN t - i.toNat | _ => 0) ⟨0, rfl, by omega, rfl⟩ ?_
  rintro _ _ _ ⟨j, rfl, hj, rfl⟩
  simp only [xP_nil, xP_pick, xP_func, xP_not, xP_add, xP_sub, xP_mul, xP_lss, xP_leq, xP_gtr, xP_geq, xP_max2, xP_min2, xR_eql, xR_neq, Nat.zero_add, Nat.add_zero, Nat.reduceAdd, List.getD_cons_zero, List.getD_cons_succ, xIf_true, xIf_false, FA_40_0, FA_40_1, FA_64_0, FA_64_1, FA_64_2, FA_67_0, FA_67_1, FA_67_2, FA_67_3, FA_75_0, FA_75_1, FA_75_2, FA_75_3, FA_82_0, FA_82_1, FA_82_2, FA_96_0, FA_96_1, FA_96_2, FA_123_0, FA_123_1, FA_123_2, LEN_34, LEN_38, LEN_51, LEN_56, LEN_60, LEN_65, LEN_83, LEN_88]
  rw [wrap64 (x := ((M.hs.length : Nat) : Int) - _) (by omega) (by omega)]
  simp only [xIf_dec]
  refine ⟨fun hlt => ?_, fun hge => ?_⟩
  · have hjl : j < M.hs.length := by omega
    have hp : decide (t ≤ (M.hs[j]).time) = false := List.not_of_lt_findIdx (by show j < M.olderN t; omega)
    have hp := of_decide_eq_false hp
    refine rowHd.fldA ha6 (Kept.refl _ _) hjl (show fieldB Tryd.prog 64 2 2 = true by kernel_rfl) ONE_3 (u := .int .i64 (M.hs[j]).time) rfl fun A hA => ?_
    simp only [xP_nil, xP_pick, xP_func, xP_not, xP_add, xP_sub, xP_mul, xP_lss, xP_leq, xP_gtr, xP_geq, xP_max2, xP_min2, xR_eql, xR_neq, Nat.zero_add, Nat.add_zero, Nat.reduceAdd, List.getD_cons_zero, List.getD_cons_succ, xIf_true, xIf_false, FA_40_0, FA_40_1, FA_64_0, FA_64_1, FA_64_2, FA_67_0, FA_67_1, FA_67_2, FA_67_3, FA_75_0, FA_75_1, FA_75_2, FA_75_3, FA_82_0, FA_82_1, FA_82_2, FA_96_0, FA_96_1, FA_96_2, FA_123_0, FA_123_1, FA_123_2, LEN_34, LEN_38, LEN_51, LEN_56, LEN_60, LEN_65, LEN_83, LEN_88, xIf_dec]
    refine ⟨fun hh => by omega, fun _ => ?_⟩
    rw [wrap64 (by omega) (by omega)]
    exact ⟨⟨j + 1, rfl, by omega, trivial⟩, by omega⟩
  have fin : Ret (fun u w' => u = .bool true ∧ Kept [] w w') (.returned (.bool true)) w6 → True := fun _ => trivial
  refine ⟨fun h0 => ⟨fun hp => ?_, fun _ => ?_⟩, fun hn => ?_⟩
  · omega
  · refine nextLS h6 ?_
    simp only [xP_nil, xP_pick, xP_func, xP_not, xP_add, xP_sub, xP_mul, xP_lss, xP_leq, xP_gtr, xP_geq, xP_max2, xP_min2, xR_eql, xR_neq, Nat.zero_add, Nat.add_zero, Nat.reduceAdd, List.getD_cons_zero, List.getD_cons_succ, xIf_true, xIf_false, FA_40_0, FA_40_1, FA_64_0, FA_64_1, FA_64_2, FA_67_0, FA_67_1, FA_67_2, FA_67_3, FA_75_0, FA_75_1, FA_75_2, FA_75_3, FA_82_0, FA_82_1, FA_82_2, FA_96_0, FA_96_1, FA_96_2, FA_123_0, FA_123_1, FA_123_2, LEN_34, LEN_38, LEN_51, LEN_56, LEN_60, LEN_65, LEN_83, LEN_88]
    rw [decide_eq_true (p5 (by omega))]
    simp only [xIf_true]
    exact pRunsG hgl h6.k0
  · have h0 : 0 < (M.hs.drop (M.olderN t)).length := by omega
    have hlt : M.olderN t < M.hs.length := by omega
    have e0 : (M.hs.drop (M.olderN t))[0] = M.hs[M.olderN t] := by simp
    have hp : decide (t ≤ (M.hs[M.olderN t]).time) = true := List.findIdx_getElem (w := hlt)
    have hp := of_decide_eq_true hp
    refine rowHd.fldA (i := 0) hb6 (Kept.refl _ _) h0 (show fieldB Tryd.prog 64 2 2 = true by kernel_rfl) ONE_3 (u := .int .i64 (M.hs[M.olderN t]).time) (by rw [e0]; rfl) fun A hA => ?_
    simp only [xP_nil, xP_pick, xP_func, xP_not, xP_add, xP_sub, xP_mul, xP_lss, xP_leq, xP_gtr, xP_geq, xP_max2, xP_min2, xR_eql, xR_neq, Nat.zero_add, Nat.add_zero, Nat.reduceAdd, List.getD_cons_zero, List.getD_cons_succ, xIf_true, xIf_false, FA_40_0, FA_40_1, FA_64_0, FA_64_1, FA_64_2, FA_67_0, FA_67_1, FA_67_2, FA_67_3, FA_75_0, FA_75_1, FA_75_2, FA_75_3, FA_82_0, FA_82_1, FA_82_2, FA_96_0, FA_96_1, FA_96_2, FA_123_0, FA_123_1, FA_123_2, LEN_34, LEN_38, LEN_51, LEN_56, LEN_60, LEN_65, LEN_83, LEN_88, xIf_dec]
    refine ⟨fun _ => ⟨fun _ => ?_, fun hh => by omega⟩, fun hh => by omega⟩
    exact pRunsG hgl h6.k0
end Go.Proofs.YtjajjblppogfoaaDoor
