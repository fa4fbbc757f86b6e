import Derived.Test.YtjajjblppogfoaaDoorXpPlog7
namespace Go.Proofs.YtjajjblppogfoaaDoor
set_option linter.unusedSimpArgs false
set_option linter.unusedVariables false
set_option maxRecDepth 100000
attribute [local irreducible] Go.X.xE
open Go Go.X Go.RowKit

/-! ## PlogGapless -/
theorem add_bad' {L : Lg} {c t s e : Int} (h : c < 1 ∨ 8 < c ∨ ¬ (0 ≤ t ∧ t ≤ 1125899906842624) ∨ s < 0 ∨ e < 0) : L.addK c t s e = 1 := by
  have hb : addBad c t s e = true := decide_eq_true h
  unfold Lg.addK; rw [hb]; rfl
structure Ak where
  kind : Int
  a : Int
  b : Int
  raw : Bool
def encK (x : Ak) : List Value := [.int .i64 x.kind, .int .i64 x.a, .int .i64 x.b, .bool x.raw]
theorem encK_len (x : Ak) : (encK x).length = 4 := rfl
theorem rowK : RowB Tryd.prog 65 67 4 encK (fun x => .agg (encK x).toArray) := RowB.agg (by kernel_rfl) (by kernel_rfl) encK_len (by kernel_rfl)
theorem drop1_len (L : Lg) : L.drop1.hs.length ≤ L.hs.length := by rw [drop1_hs, List.length_drop]; omega
theorem trim_props {L : Lg} (hok : L.Ok) (o : Int) : L.start ≤ (L.trim o).start ∧ (L.trim o).next = L.next ∧ (L.trimK o ≠ 0 → L.trim o = L) := by
  unfold Lg.trim
  split
  · rename_i h
    exact ⟨by show L.start ≤ o; omega, rfl, fun hh => absurd h.1 hh⟩
  · exact ⟨Int.le_refl _, rfl, fun _ => rfl⟩
theorem add_props (L : Lg) (c t s e : Int) : (L.add c t s e).start = L.start ∧ L.next ≤ (L.add c t s e).next ∧ (L.add c t s e).next ≤ L.next + 8 ∧ (L.addK c t s e ≠ 0 → L.add c t s e = L) := by
  by_cases hk : L.addK c t s e = 0
  · have hL : L.add c t s e = ⟨L.hs ++ [⟨L.next, c, t, s, e⟩], L.start, L.next + c⟩ := if_pos hk
    have hb : ¬ (c < 1 ∨ 8 < c ∨ ¬ (0 ≤ t ∧ t ≤ 1125899906842624) ∨ s < 0 ∨ e < 0) := by
      intro hb
      have := (add_bad' (L := L) hb)
      omega
    rw [hL]
    exact ⟨rfl, by show L.next ≤ L.next + c; omega, by show L.next + c ≤ L.next + 8; omega, fun h => absurd hk h⟩
  · have hL : L.add c t s e = L := if_neg hk
    rw [hL]
    exact ⟨rfl, Int.le_refl _, by omega, fun _ => rfl⟩
theorem pgapless_ok {first : Int} {l : List Ak} {v : Value} {w : World} (hgl : Glob w) (hl : SlT w encK v l) :
    Gives Tryd.prog 11 #[.int .i64 first, v] w fun u w' => u = .bool true ∧ Kept [] w w' := by
  refine C_stavelaw17_PlogGapless ?_
  unfold S_stavelaw17_PlogGapless
  obtain ⟨la, lc, rfl, hlc, hlr⟩ := hl
  have hl : SlT w encK (.slice la l.length lc) l := ⟨la, lc, rfl, hlc, hlr⟩
  refine xE_call CF_21 (within_ok (by omega) (by omega) (by omega)) ?_
  rintro _ _ ⟨rfl, rfl⟩
  obtain ⟨wb1, wb2⟩ := within_bd (n := first) (lo := 0) (hi := 1099511627776) (by omega)
  generalize within first 0 1099511627776 = n0 at *
  refine newLS (by omega) (by omega) fun p w1 h1 => ?_
  have k1 := Lg.ok0 (n := n0) (by omega) (by omega)
  simp only [xP_ex0, xP_ex1]
  refine xJoin_of (fun ls w' => ls = [.bool false] ∧ w1 = w') ?_ ?_
  · refine (xR_pnil PT_46).2 ?_
    simp only [Option.isNone_some, xIf_false]
    refine (xR_neqN IFE).2 ?_
    exact ⟨rfl, trivial⟩
  rintro _ _ _ ⟨rfl, rfl⟩
  simp only [List.getD_cons_zero, xIf_false]
  refine xLoop_of (fun ls w' => ∃ (i : Nat) (L : Lg), ls = [.int .i64 i] ∧ i ≤ l.length ∧ i ≤ 50 ∧ L.Ok ∧ L.hs.length ≤ i ∧ L.next ≤ 1099511627776 + 8 * (i : Int) ∧ PS w w' p L)
    (fun ls _ => match ls with | [.int _ i] => 50 - i.toNat | _ => 0) ⟨0, _, rfl, by omega, by omega, k1, by simp, by simp; omega, h1⟩ ?_
  rintro _ _ w2 ⟨i, L, rfl, hi, hi50, hok, hlen, hnext, hps⟩
  have hk2 := hps.k0
  refine xJoin_of (fun ls w' => ls = [.bool (decide (i < l.length ∧ i < 50))] ∧ w2 = w') ?_ ?_
  · simp only [xP_nil, xP_pick, xP_func, xP_not, xP_add, xP_sub, xP_mul, xP_lss, xP_leq, xP_gtr, xP_geq, xP_max2, xP_min2, xR_eql, xR_neq, Nat.zero_add, Nat.add_zero, Nat.reduceAdd, List.getD_cons_zero, List.getD_cons_succ, xIf_true, xIf_false, FA_40_0, FA_40_1, FA_64_0, FA_64_1, FA_64_2, FA_67_0, FA_67_1, FA_67_2, FA_67_3, FA_75_0, FA_75_1, FA_75_2, FA_75_3, FA_82_0, FA_82_1, FA_82_2, FA_96_0, FA_96_1, FA_96_2, FA_123_0, FA_123_1, FA_123_2, LEN_34, LEN_38, LEN_51, LEN_56, LEN_60, LEN_65, LEN_83, LEN_88, xIf_dec]
    refine ⟨fun h1 => ⟨by rw [decide_eq_decide.2 (show ((i : Int) < 50) ↔ (i < l.length ∧ i < 50) by omega)], trivial⟩, fun h1 => ⟨by rw [decide_eq_false (show ¬ (i < l.length ∧ i < 50) by omega)], trivial⟩⟩
  rintro _ _ _ ⟨rfl, rfl⟩
  simp only [List.getD_cons_zero, xIf_dec]
  refine ⟨fun hgo => ?_, fun hstop => pRunsG hgl hk2⟩
  have hs0 := hok.s0; have hsn := hok.sn; have hnm := hok.nm
  refine startLS hps ?_
  refine nextLS hps ?_
  refine lenLS hps fun w3 hk3 => ?_
  have h3 := hps.next hk3
  have hil := hgo.1
  have fl : ∀ (q : Nat) (X : TypeId) (uu : Value) (K : Value → Value → Prop) (w' : World), Kept [] w w' → fieldB Tryd.prog 67 q q = true → oneB Tryd.prog X = true → (encK l[i])[q]? = some uu →
      (∀ A : Addr, (∀ w'', Kept [] w w'' → w''.cell? A = some uu) → K (.pointer (some A)) uu) →
      (xP Tryd.prog (sIA 65 (.slice la l.length lc) (.int .i64 (i : Nat))) fun v => xP Tryd.prog (sFA 67 v q) fun c => xR Tryd.prog (sLoad X c) w' fun u => K c u) :=
    fun q X uu K w' hk' hB hX hu hK => rowK.fldA hl hk' hil hB hX hu hK
  generalize l[i] = x at *
  refine xJoin_of (fun ls w' => ∃ (M : Lg) (bad : Bool), ls = [.bool bad] ∧ M.Ok ∧ L.start ≤ M.start ∧ L.next ≤ M.next ∧ M.next ≤ L.next + 8 ∧ M.hs.length ≤ i + 1 ∧ (bad = true → M = L) ∧ PS w w' p M) ?_ ?_
  · refine fl 0 3 _ _ _ h3.k0 (by kernel_rfl) ONE_3 rfl fun A0 h0 => ?_
    simp only [xR_eql, xIf_dec]
    refine ⟨fun h1 => ?_, fun h1 => ⟨fun h2 => ?_, fun h2 => ⟨fun h4 => ?_, fun h4 => ⟨fun h5 => ?_, fun h5 => ?_⟩⟩⟩⟩
    · have hd := kept_drew [] w3
      have h3d := h3.next hd
      refine fl 1 3 _ _ _ h3d.k0 (by kernel_rfl) ONE_3 rfl fun A1 _ => ?_
      refine fl 2 3 _ _ _ h3d.k0 (by kernel_rfl) ONE_3 rfl fun A2 _ => ?_
      refine addLS h3d hok (by omega) fun w4 h4 => ?_
      have hok4 := Lg.add_ok hok x.a x.b 1 1
      have hlen4 := Lg.add_len L x.a x.b 1 1
      obtain ⟨a1, a2, a3, a4⟩ := add_props L x.a x.b 1 1
      simp only [xP_ex0, xP_ex1]
      refine optV_neq.2 ?_
      rw [erOp_some]
      exact ⟨_, _, rfl, hok4, by omega, a2, a3, by omega, fun hb => a4 (by simpa using hb), h4⟩
    · refine fl 1 3 _ _ _ h3.k0 (by kernel_rfl) ONE_3 rfl fun A1 _ => ?_
      refine xE_call CF_21 (within_ok (by omega) (by omega) (by omega)) ?_
      rintro _ _ ⟨rfl, rfl⟩
      obtain ⟨wc1, wc2⟩ := within_bd (n := x.a) (lo := 0) (hi := 12) (by omega)
      generalize within x.a 0 12 = c at *
      refine xP_add.2 ?_
      rw [wrap64 (by omega) (by omega)]
      refine trimLS h3 hok (by omega) fun w4 h4 => ?_
      have hok4 := Lg.trim_ok hok (L.start + c)
      have hlen4 := Lg.trim_len L (L.start + c)
      obtain ⟨a1, a2, a3⟩ := trim_props hok (L.start + c)
      refine optV_neq.2 ?_
      rw [erOp_some]
      exact ⟨_, _, rfl, hok4, a1, by omega, by omega, by omega, fun hb => a3 (by simpa using hb), h4⟩
    · refine fl 1 3 _ _ _ h3.k0 (by kernel_rfl) ONE_3 rfl fun A1 _ => ?_
      refine xE_call CF_21 (within_ok (by omega) (by omega) (by omega)) ?_
      rintro _ _ ⟨rfl, rfl⟩
      refine keepLS h3 hok (by omega) fun w4 h4 => ?_
      exact ⟨_, false, rfl, dropN_ok hok _, dropN_start hok _, by rw [dropN_next]; omega, by rw [dropN_next]; omega, by have := Lg.dropN_len L (L.keepN (within x.a 0 9)); omega, (fun hb => by cases hb), h4⟩
    · refine fl 1 3 _ _ _ h3.k0 (by kernel_rfl) ONE_3 rfl fun A1 _ => ?_
      refine olderLS h3 hok (by omega) fun w4 h4 => ?_
      exact ⟨_, false, rfl, dropN_ok hok _, dropN_start hok _, by rw [dropN_next]; omega, by rw [dropN_next]; omega, by have := Lg.dropN_len L (L.olderN x.a); omega, (fun hb => by cases hb), h4⟩
    · exact ⟨L, false, rfl, hok, Int.le_refl _, Int.le_refl _, by omega, by omega, (fun hb => by cases hb), h3⟩
  rintro _ _ w4 ⟨M, bad, rfl, mok, m1, m2, m3, m4, m5, h4⟩
  have ms0 := mok.s0; have msn := mok.sn; have mnm := mok.nm
  simp only [List.getD_cons_zero]
  refine xJoin_of (fun ls w' => ls = [.bool false] ∧ Kept [] w4 w') ?_ ?_
  · refine startLS h4 ?_
    simp only [xP_nil, xP_pick, xP_func, xP_not, xP_add, xP_sub, xP_mul, xP_lss, xP_leq, xP_gtr, xP_geq, xP_max2, xP_min2, xR_eql, xR_neq, Nat.zero_add, Nat.add_zero, Nat.reduceAdd, List.getD_cons_zero, List.getD_cons_succ, xIf_true, xIf_false, FA_40_0, FA_40_1, FA_64_0, FA_64_1, FA_64_2, FA_67_0, FA_67_1, FA_67_2, FA_67_3, FA_75_0, FA_75_1, FA_75_2, FA_75_3, FA_82_0, FA_82_1, FA_82_2, FA_96_0, FA_96_1, FA_96_2, FA_123_0, FA_123_1, FA_123_2, LEN_34, LEN_38, LEN_51, LEN_56, LEN_60, LEN_65, LEN_83, LEN_88]
    rw [decide_eq_false (by omega)]
    simp only [xIf_false]
    refine nextLS h4 ?_
    simp only [xP_nil, xP_pick, xP_func, xP_not, xP_add, xP_sub, xP_mul, xP_lss, xP_leq, xP_gtr, xP_geq, xP_max2, xP_min2, xR_eql, xR_neq, Nat.zero_add, Nat.add_zero, Nat.reduceAdd, List.getD_cons_zero, List.getD_cons_succ, xIf_true, xIf_false, FA_40_0, FA_40_1, FA_64_0, FA_64_1, FA_64_2, FA_67_0, FA_67_1, FA_67_2, FA_67_3, FA_75_0, FA_75_1, FA_75_2, FA_75_3, FA_82_0, FA_82_1, FA_82_2, FA_96_0, FA_96_1, FA_96_2, FA_123_0, FA_123_1, FA_123_2, LEN_34, LEN_38, LEN_51, LEN_56, LEN_60, LEN_65, LEN_83, LEN_88]
    rw [decide_eq_false (by omega)]
    simp only [xIf_false]
    refine startLS h4 ?_
    refine nextLS h4 ?_
    simp only [xP_nil, xP_pick, xP_func, xP_not, xP_add, xP_sub, xP_mul, xP_lss, xP_leq, xP_gtr, xP_geq, xP_max2, xP_min2, xR_eql, xR_neq, Nat.zero_add, Nat.add_zero, Nat.reduceAdd, List.getD_cons_zero, List.getD_cons_succ, xIf_true, xIf_false, FA_40_0, FA_40_1, FA_64_0, FA_64_1, FA_64_2, FA_67_0, FA_67_1, FA_67_2, FA_67_3, FA_75_0, FA_75_1, FA_75_2, FA_75_3, FA_82_0, FA_82_1, FA_82_2, FA_96_0, FA_96_1, FA_96_2, FA_123_0, FA_123_1, FA_123_2, LEN_34, LEN_38, LEN_51, LEN_56, LEN_60, LEN_65, LEN_83, LEN_88]
    rw [decide_eq_false (by omega)]
    simp only [xIf_false]
    cases bad with
    | false =>
      simp only [xIf_false]
      exact ⟨trivial, Kept.refl _ _⟩
    | true =>
      have e := m5 rfl
      subst e
      simp only [xIf_true]
      refine startLS h4 ?_
      simp only [xR_neq, ne_eq, not_true_eq_false, decide_false, xIf_false]
      refine nextLS h4 ?_
      simp only [xR_neq, ne_eq, not_true_eq_false, decide_false, xIf_false]
      refine lenLS h4 fun w5 hk5 => ?_
      simp only [xR_neq, ne_eq, not_true_eq_false, decide_false]
      exact ⟨trivial, hk5⟩
  rintro _ _ w5 ⟨rfl, hk5⟩
  have h5 := h4.next hk5
  simp only [List.getD_cons_zero, xIf_false]
  refine startLS h5 ?_
  obtain ⟨q1, q2⟩ := from_start mok
  refine fromLS h5 mok (by omega) fun hv w6 hh6 hk6 _ => ?_
  have h6 := h5.next hk6
  rw [q2] at hh6
  rw [q1]
  simp only [xP_ex0, xP_ex1]
  obtain ⟨ha, hc, rfl, r1, r2⟩ := hh6
  have hh6 : SlT w6 encH (.slice ha M.hs.length hc) M.hs := ⟨ha, hc, rfl, r1, r2⟩
  refine xJoin_of (fun ls w' => ls = [.bool false] ∧ Kept [] w6 w') ?_ ?_
  · refine optV_neq.2 ?_
    simp only [erOp, if_true, Option.isSome_none, xIf_false, xP_nil, xP_pick, xP_func, xP_not, xP_add, xP_sub, xP_mul, xP_lss, xP_leq, xP_gtr, xP_geq, xP_max2, xP_min2, xR_eql, xR_neq, Nat.zero_add, Nat.add_zero, Nat.reduceAdd, List.getD_cons_zero, List.getD_cons_succ, xIf_true, xIf_false, FA_40_0, FA_40_1, FA_64_0, FA_64_1, FA_64_2, FA_67_0, FA_67_1, FA_67_2, FA_67_3, FA_75_0, FA_75_1, FA_75_2, FA_75_3, FA_82_0, FA_82_1, FA_82_2, FA_96_0, FA_96_1, FA_96_2, FA_123_0, FA_123_1, FA_123_2, LEN_34, LEN_38, LEN_51, LEN_56, LEN_60, LEN_65, LEN_83, LEN_88]
    refine lenLS h6 fun w7 hk7 => ?_
    simp only [xR_neq, ne_eq, not_true_eq_false, decide_false]
    exact ⟨trivial, hk7⟩
  rintro _ _ w7 ⟨rfl, hk7⟩
  have h7 := h6.next hk7
  have hh7 := hh6.kept0 hk7
  simp only [List.getD_cons_zero, xIf_false]
  refine startLS h7 ?_
  try simp only [xP_nil, xP_pick, xP_func, xP_not, xP_add, xP_sub, xP_mul, xP_lss, xP_leq, xP_gtr, xP_geq, xP_max2, xP_min2, xR_eql, xR_neq, Nat.zero_add, Nat.add_zero, Nat.reduceAdd, List.getD_cons_zero, List.getD_cons_succ, xIf_true, xIf_false, FA_40_0, FA_40_1, FA_64_0, FA_64_1, FA_64_2, FA_67_0, FA_67_1, FA_67_2, FA_67_3, FA_75_0, FA_75_1, FA_75_2, FA_75_3, FA_82_0, FA_82_1, FA_82_2, FA_96_0, FA_96_1, FA_96_2, FA_123_0, FA_123_1, FA_123_2, LEN_34, LEN_38, LEN_51, LEN_56, LEN_60, LEN_65, LEN_83, LEN_88]
  refine xLoop_of (fun ls w' => ∃ k : Nat, ls = [.int .i64 (if k = 0 then M.start else endOf M.hs k M.next), .int .i64 k] ∧ k ≤ M.hs.length ∧ Kept [] w7 w') (fun ls _ => match ls with | [_, .int _ k] => M.hs.length - k.toNat | _ => 0) ⟨0, rfl, by omega, Kept.refl _ _⟩ ?_
  rintro _ _ w8 ⟨k, rfl, hk, hk8⟩
  have h8 := h7.next hk8
  simp only [xP_nil, xP_pick, xP_func, xP_not, xP_add, xP_sub, xP_mul, xP_lss, xP_leq, xP_gtr, xP_geq, xP_max2, xP_min2, xR_eql, xR_neq, Nat.zero_add, Nat.add_zero, Nat.reduceAdd, List.getD_cons_zero, List.getD_cons_succ, xIf_true, xIf_false, FA_40_0, FA_40_1, FA_64_0, FA_64_1, FA_64_2, FA_67_0, FA_67_1, FA_67_2, FA_67_3, FA_75_0, FA_75_1, FA_75_2, FA_75_3, FA_82_0, FA_82_1, FA_82_2, FA_96_0, FA_96_1, FA_96_2, FA_123_0, FA_123_1, FA_123_2, LEN_34, LEN_38, LEN_51, LEN_56, LEN_60, LEN_65, LEN_83, LEN_88, xIf_dec]
  refine ⟨fun hlt => ?_, fun hge => ?_⟩
  · have hkl : k < M.hs.length := by omega
    have hget : M.hs[k]? = some M.hs[k] := List.getElem?_eq_getElem hkl
    refine (rowHd.get hh7 hk8 hkl).2 ?_
    have hr := mok.gap.1 _ (List.getElem_mem hkl)
    have he := mok.gap.end_le (List.getElem_mem hkl)
    have hnx := mok.gap.2 k _ hget
    have hat : k ≠ 0 → endOf M.hs k M.next = (M.hs[k]).base := fun _ => by unfold endOf; rw [hget]
    have hfst : k = 0 → (M.hs[k]).base ≤ M.start ∧ M.start < (M.hs[k]).base + (M.hs[k]).count := fun h0 => mok.first _ (by rw [← hget, h0])
    generalize M.hs[k] = y at *
    refine newHd fun w9 hb9 hk9 => ?_
    have h9 := h8.next hk9
    generalize w8.heap.size = Y at *
    have L0 : ∀ K, xR Tryd.prog (sLoad 3 (.pointer (some ⟨Y, 0, none⟩))) w9 K ↔ K (.int .i64 y.base) := fun _ => ld1 ONE_3 (hb9.cell (o := 0))
    have L1 : ∀ K, xR Tryd.prog (sLoad 3 (.pointer (some ⟨Y, 1, none⟩))) w9 K ↔ K (.int .i64 y.count) := fun _ => ld1 ONE_3 (hb9.cell (o := 1))
    refine xJoin_of (fun ls w' => ls = [.bool false] ∧ w9 = w') ?_ ?_
    · simp only [xP_nil, xP_pick, xP_func, xP_not, xP_add, xP_sub, xP_mul, xP_lss, xP_leq, xP_gtr, xP_geq, xP_max2, xP_min2, xR_eql, xR_neq, Nat.zero_add, Nat.add_zero, Nat.reduceAdd, List.getD_cons_zero, List.getD_cons_succ, xIf_true, xIf_false, FA_40_0, FA_40_1, FA_64_0, FA_64_1, FA_64_2, FA_67_0, FA_67_1, FA_67_2, FA_67_3, FA_75_0, FA_75_1, FA_75_2, FA_75_3, FA_82_0, FA_82_1, FA_82_2, FA_96_0, FA_96_1, FA_96_2, FA_123_0, FA_123_1, FA_123_2, LEN_34, LEN_38, LEN_51, LEN_56, LEN_60, LEN_65, LEN_83, LEN_88, L0, L1]
      rw [wrap64 (by omega) (by omega)]
      by_cases h0 : k = 0
      · have := hfst h0
        rw [if_pos h0]
        refine ⟨fun hh => absurd hh (by omega), fun _ => ⟨fun _ => ?_, fun hh => absurd (by omega) hh⟩⟩
        rw [decide_eq_false (show ¬ (M.start < y.base) by omega), decide_eq_false (show ¬ (y.base + y.count ≤ M.start) by omega)]
        simp only [xIf_false]
        exact ⟨trivial, trivial⟩
      · rw [if_neg h0, hat h0]
        refine ⟨fun _ => ?_, fun hh => absurd (by omega) hh⟩
        simp only [ne_eq, not_true_eq_false, decide_false, xIf_false]
        exact ⟨fun hh => absurd hh (by omega), fun _ => ⟨trivial, trivial⟩⟩
    rintro _ _ _ ⟨rfl, rfl⟩
    simp only [xP_nil, xP_pick, xP_func, xP_not, xP_add, xP_sub, xP_mul, xP_lss, xP_leq, xP_gtr, xP_geq, xP_max2, xP_min2, xR_eql, xR_neq, Nat.zero_add, Nat.add_zero, Nat.reduceAdd, List.getD_cons_zero, List.getD_cons_succ, xIf_true, xIf_false, FA_40_0, FA_40_1, FA_64_0, FA_64_1, FA_64_2, FA_67_0, FA_67_1, FA_67_2, FA_67_3, FA_75_0, FA_75_1, FA_75_2, FA_75_3, FA_82_0, FA_82_1, FA_82_2, FA_96_0, FA_96_1, FA_96_2, FA_123_0, FA_123_1, FA_123_2, LEN_34, LEN_38, LEN_51, LEN_56, LEN_60, LEN_65, LEN_83, LEN_88, L0, L1, List.getD_cons_zero, xIf_false]
    rw [wrap64 (x := y.base + y.count) (by omega) (by omega), wrap64 (by omega) (by omega)]
    refine ⟨⟨k + 1, ?_, by omega, hk8.then hk9 (by simp)⟩, by omega⟩
    rw [if_neg (by omega), ← hnx]
    rfl
  · obtain rfl : k = M.hs.length := by omega
    refine xJoin_of (fun ls w' => ls = [.bool false] ∧ w8 = w') ?_ ?_
    · refine ⟨fun hpos => ?_, fun _ => ⟨rfl, rfl⟩⟩
      refine nextLS h8 ?_
      rw [if_neg (by omega), show endOf M.hs M.hs.length M.next = M.next by unfold endOf; rw [List.getElem?_eq_none (Nat.le_refl _)]]
      simp only [xR_neq, ne_eq, not_true_eq_false, decide_false]
      exact ⟨trivial, trivial⟩
    rintro _ _ _ ⟨rfl, rfl⟩
    simp only [List.getD_cons_zero, xIf_false]
    rw [wrap64 (by omega) (by omega)]
    exact ⟨⟨i + 1, M, rfl, by omega, by omega, mok, m4, by omega, h8⟩, by omega⟩
end Go.Proofs.YtjajjblppogfoaaDoor
