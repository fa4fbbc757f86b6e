import Derived.Test.YtoanmeohlpdjfaaDoorXcCode8
namespace Go.Proofs.YtoanmeohlpdjfaaDoor
set_option linter.unusedSimpArgs false
set_option linter.unusedVariables false
set_option maxRecDepth 100000
attribute [local irreducible] Go.X.xE
open Go Go.X Go.RowKit

/-! ## Decode, Rebuild, Delta -/
def opCD : ByteArray := ⟨#[99, 111, 100, 101, 46, 68, 101, 99, 111, 100, 101]⟩
def opCR : ByteArray := ⟨#[99, 111, 100, 101, 46, 82, 101, 98, 117, 105, 108, 100]⟩
def opCX : ByteArray := ⟨#[99, 111, 100, 101, 46, 68, 101, 108, 116, 97]⟩
def s0 (l : List Pt) : Nat := (l.getD 0 dPt).d.length
def badPt (n : Nat) (l : List Pt) (q : Pt) : Bool := decide (q.at_ < 0 ∨ (n : Int) ≤ q.at_ ∨ q.d.length ≠ s0 l)
/-- What Decode gives. -/
def DecR (w' : World) (k n : Nat) (l : List Pt) (u : Value) : Prop :=
  (l.findIdx (badPt n l) < l.length ∧ u = .tuple #[.slice none 0 0, erV (.flt opCD (l.findIdx (badPt n l) : Nat) (.no 2))]) ∨
  (l.findIdx (badPt n l) = l.length ∧ (chosenP k l).length < k ∧ u = .tuple #[.slice none 0 0, erV (.flt opCD ((chosenP k l).length : Nat) (.no 3))]) ∨
  (l.findIdx (badPt n l) = l.length ∧ (chosenP k l).length = k ∧ ∃ y X, u = .tuple #[y, .nilIface] ∧ X.length = k ∧ (∀ b ∈ X, b.length = s0 l) ∧ RowsT w' y X ∧ Sol k (s0 l) (fun j => X.getD j []) (ptR k (chosenP k l)))
theorem find_end {p : Pt → Bool} {l : List Pt} (h : l.findIdx p = l.length) : ∀ q ∈ l, p q = false := fun q hq => by
  cases hp : p q with
  | false => rfl
  | true =>
    have := List.findIdx_lt_length_of_exists ⟨q, hq, hp⟩
    omega
theorem decode_ok {p k n f : Nat} {cv v : Value} {l : List Pt} {w : World} (h : CodeIs w p k n f cv) (hl : SlT w encPt v l) (hp : PtsOk w l) (hll : l.length ≤ 1000000) (hsz : s0 l ≤ 1000000) :
    Gives Tryd.prog 15 #[.pointer (some ⟨p, 0, none⟩), v] w fun u w' => DecR w' k n l u ∧ Kept [] w w' := by
  have hk1 := h.k1
  have hkn := h.kn
  have hn8 := h.n8
  refine C_code_Code_Decode ?_
  unfold S_code_Code_Decode
  obtain ⟨va, vc, hv⟩ := h.rows.sl
  rw [crows_len] at hv
  obtain ⟨la, lc, rfl, hlc, hlr⟩ := hl
  have hl : SlT w encPt (.slice la l.length lc) l := ⟨la, lc, rfl, hlc, hlr⟩
  simp only [xP_nil, xP_pick, xP_func, xP_not, xP_add, xP_sub, xP_mul, xP_lss, xP_leq, xP_gtr, xP_geq, xP_max2, xP_min2, xR_eql, xR_neq, Nat.zero_add, Nat.add_zero, Nat.reduceAdd, List.getD_cons_zero, List.getD_cons_succ, xIf_true, xIf_false, FA_35_0, FA_35_1, FA_66_0, FA_66_1, FA_66_2, FA_82_0, FA_82_1, FA_82_2, FA_86_0, FA_86_1, LEN_29, LEN_32, LEN_47, LEN_48, LEN_79, LEN_116]
  refine xLoop_of (fun ls w' => ∃ i : Nat, ls = [.int .i64 i] ∧ i ≤ l.length ∧ (∀ j, (hj : j < l.length) → j < i → badPt n l l[j] = false) ∧ Kept [] w w') (fun ls _ => match ls with | [.int _ i] => l.length - i.toNat | _ => 0) ⟨0, rfl, by omega, fun j _ h => by omega, Kept.refl _ _⟩ ?_
  rintro _ _ w1 ⟨i, rfl, hi, hb, hk⟩
  simp only [xP_nil, xP_pick, xP_func, xP_not, xP_add, xP_sub, xP_mul, xP_lss, xP_leq, xP_gtr, xP_geq, xP_max2, xP_min2, xR_eql, xR_neq, Nat.zero_add, Nat.add_zero, Nat.reduceAdd, List.getD_cons_zero, List.getD_cons_succ, xIf_true, xIf_false, FA_35_0, FA_35_1, FA_66_0, FA_66_1, FA_66_2, FA_82_0, FA_82_1, FA_82_2, FA_86_0, FA_86_1, LEN_29, LEN_32, LEN_47, LEN_48, LEN_79, LEN_116, xIf_dec]
  refine ⟨fun hlt => ?_, fun hge => ?_⟩
  · have hi1 : i < l.length := by omega
    have hqok := hp _ (List.getElem_mem hi1)
    have hfi : badPt n l l[i] = true → l.findIdx (badPt n l) = i := fun hbt => (List.findIdx_eq hi1).2 ⟨hbt, fun j hj => hb j (by omega) hj⟩
    refine takePt hl hp hk hi1 fun w2 hbp hk2 hz2 => ?_
    have hd2 := kept_drew [] w2
    have hk02 := (hk.then hk2 (by simp)).then hd2 (by simp)
    have hbp : Blk w2.drew w1.heap.size 35 (encPt l[i]) := hbp
    obtain ⟨L0, L1, L2⟩ := h.ld hk02
    obtain ⟨qa, qc, hqv, _, _⟩ := hqok
    refine xJoin_of (fun ls w' => ls = [.bool (badPt n l l[i])] ∧ w2.drew = w') ?_ ?_
    · have c0 : w2.drew.cell? ⟨w1.heap.size, 0, none⟩ = some (.int .i64 l[i].at_) := hbp.cell (o := 0)
      have c1 : w2.drew.cell? ⟨w1.heap.size, 1, none⟩ = some l[i].v := hbp.cell (o := 1)
      simp only [xP_nil, xP_pick, xP_func, xP_not, xP_add, xP_sub, xP_mul, xP_lss, xP_leq, xP_gtr, xP_geq, xP_max2, xP_min2, xR_eql, xR_neq, Nat.zero_add, Nat.add_zero, Nat.reduceAdd, List.getD_cons_zero, List.getD_cons_succ, xIf_true, xIf_false, FA_35_0, FA_35_1, FA_66_0, FA_66_1, FA_66_2, FA_82_0, FA_82_1, FA_82_2, FA_86_0, FA_86_1, LEN_29, LEN_32, LEN_47, LEN_48, LEN_79, LEN_116]
      refine (ld1 ONE_3 c0).2 ?_
      simp only [xP_nil, xP_pick, xP_func, xP_not, xP_add, xP_sub, xP_mul, xP_lss, xP_leq, xP_gtr, xP_geq, xP_max2, xP_min2, xR_eql, xR_neq, Nat.zero_add, Nat.add_zero, Nat.reduceAdd, List.getD_cons_zero, List.getD_cons_succ, xIf_true, xIf_false, FA_35_0, FA_35_1, FA_66_0, FA_66_1, FA_66_2, FA_82_0, FA_82_1, FA_82_2, FA_86_0, FA_86_1, LEN_29, LEN_32, LEN_47, LEN_48, LEN_79, LEN_116, xIf_dec]
      refine ⟨fun h1 => ⟨by unfold badPt; rw [decide_eq_true (.inl h1)], by trivial⟩, fun h1 => ?_⟩
      refine (ld1 ONE_3 c0).2 ?_
      simp only [xP_nil, xP_pick, xP_func, xP_not, xP_add, xP_sub, xP_mul, xP_lss, xP_leq, xP_gtr, xP_geq, xP_max2, xP_min2, xR_eql, xR_neq, Nat.zero_add, Nat.add_zero, Nat.reduceAdd, List.getD_cons_zero, List.getD_cons_succ, xIf_true, xIf_false, FA_35_0, FA_35_1, FA_66_0, FA_66_1, FA_66_2, FA_82_0, FA_82_1, FA_82_2, FA_86_0, FA_86_1, LEN_29, LEN_32, LEN_47, LEN_48, LEN_79, LEN_116, L2]
      rw [hv]
      simp only [xP_nil, xP_pick, xP_func, xP_not, xP_add, xP_sub, xP_mul, xP_lss, xP_leq, xP_gtr, xP_geq, xP_max2, xP_min2, xR_eql, xR_neq, Nat.zero_add, Nat.add_zero, Nat.reduceAdd, List.getD_cons_zero, List.getD_cons_succ, xIf_true, xIf_false, FA_35_0, FA_35_1, FA_66_0, FA_66_1, FA_66_2, FA_82_0, FA_82_1, FA_82_2, FA_86_0, FA_86_1, LEN_29, LEN_32, LEN_47, LEN_48, LEN_79, LEN_116, xIf_dec]
      refine ⟨fun h2 => ⟨by unfold badPt; rw [decide_eq_true (.inr (.inl h2))], by trivial⟩, fun h2 => ?_⟩
      refine (ld1 ONE_32 c1).2 ?_
      rw [hqv]
      simp only [xP_nil, xP_pick, xP_func, xP_not, xP_add, xP_sub, xP_mul, xP_lss, xP_leq, xP_gtr, xP_geq, xP_max2, xP_min2, xR_eql, xR_neq, Nat.zero_add, Nat.add_zero, Nat.reduceAdd, List.getD_cons_zero, List.getD_cons_succ, xIf_true, xIf_false, FA_35_0, FA_35_1, FA_66_0, FA_66_1, FA_66_2, FA_82_0, FA_82_1, FA_82_2, FA_86_0, FA_86_1, LEN_29, LEN_32, LEN_47, LEN_48, LEN_79, LEN_116]
      have h0 : 0 < l.length := by omega
      obtain ⟨pa, pc, hpv, _, _⟩ := hp _ (List.getElem_mem h0)
      have key : ∀ {R : Value → Prop}, (xP Tryd.prog (sIA 48 (.slice la l.length lc) (.int .i64 0)) fun v => xP Tryd.prog (sFA 35 v 1) fun c => xR Tryd.prog (sLoad 32 c) w2.drew R) ↔ R l[0].v := fun {R} => rowPt.fld (i := 0) hl hk02 h0 (show fieldB Tryd.prog 35 1 1 = true by kernel_rfl) ONE_32 rfl
      refine key.2 ?_
      rw [hpv]
      simp only [xP_nil, xP_pick, xP_func, xP_not, xP_add, xP_sub, xP_mul, xP_lss, xP_leq, xP_gtr, xP_geq, xP_max2, xP_min2, xR_eql, xR_neq, Nat.zero_add, Nat.add_zero, Nat.reduceAdd, List.getD_cons_zero, List.getD_cons_succ, xIf_true, xIf_false, FA_35_0, FA_35_1, FA_66_0, FA_66_1, FA_66_2, FA_82_0, FA_82_1, FA_82_2, FA_86_0, FA_86_1, LEN_29, LEN_32, LEN_47, LEN_48, LEN_79, LEN_116]
      refine ⟨?_, by trivial⟩
      unfold badPt s0
      rw [getD_lt h0]
      rw [decide_eq_decide.2 (show ((l[i].d.length : Int) ≠ (l[0].d.length : Nat)) ↔ (l[i].at_ < 0 ∨ (n : Int) ≤ l[i].at_ ∨ l[i].d.length ≠ l[0].d.length) by omega)]
    rintro _ _ _ ⟨rfl, rfl⟩
    simp only [List.getD_cons_zero]
    cases hbt : badPt n l l[i] with
    | true =>
      simp only [xIf_true]
      exact cwrapK ⟨.inl ⟨by rw [hfi hbt]; exact hi1, by rw [hfi hbt]; rfl⟩, hk02⟩
    | false =>
      simp only [xIf_false, xP_nil, xP_pick, xP_func, xP_not, xP_add, xP_sub, xP_mul, xP_lss, xP_leq, xP_gtr, xP_geq, xP_max2, xP_min2, xR_eql, xR_neq, Nat.zero_add, Nat.add_zero, Nat.reduceAdd, List.getD_cons_zero, List.getD_cons_succ, xIf_true, xIf_false, FA_35_0, FA_35_1, FA_66_0, FA_66_1, FA_66_2, FA_82_0, FA_82_1, FA_82_2, FA_86_0, FA_86_1, LEN_29, LEN_32, LEN_47, LEN_48, LEN_79, LEN_116]
      rw [wrap64 (by omega) (by omega)]
      refine ⟨⟨i + 1, rfl, by omega, fun j hj hji => ?_, hk02⟩, by omega⟩
      by_cases hji2 : j = i
      · subst hji2; exact hbt
      · exact hb j hj (by omega)
  · obtain rfl : i = l.length := by omega
    have hend : l.findIdx (badPt n l) = l.length := List.findIdx_eq_length_of_false fun q hq => by
      obtain ⟨j, hj, rfl⟩ := List.getElem_of_mem hq
      exact hb j hj hj
    have hgood : ∀ q ∈ l, 0 ≤ q.at_ ∧ q.at_ < n ∧ q.d.length = s0 l := fun q hq => by
      have := find_end hend q hq
      unfold badPt at this
      simp only [decide_eq_false_iff_not, not_or] at this
      omega
    refine xE_call CF_35 (chosen_ok (h.kept0 hk) (hl.kept0 hk) (hp.kept0 hk) (fun q hq => by have := hgood q hq; omega) hll) ?_
    rintro u w2 ⟨hu, hk2⟩
    have hk02 := hk.then hk2 (by simp)
    have hcl := chosen_le k l
    obtain ⟨ua, uc, rfl, huc, hur⟩ := hu
    have hu : SlT w2 encPt (.slice ua (chosenP k l).length uc) (chosenP k l) := ⟨ua, uc, rfl, huc, hur⟩
    obtain ⟨L0, L1, L2⟩ := h.ld hk02
    simp only [xP_nil, xP_pick, xP_func, xP_not, xP_add, xP_sub, xP_mul, xP_lss, xP_leq, xP_gtr, xP_geq, xP_max2, xP_min2, xR_eql, xR_neq, Nat.zero_add, Nat.add_zero, Nat.reduceAdd, List.getD_cons_zero, List.getD_cons_succ, xIf_true, xIf_false, FA_35_0, FA_35_1, FA_66_0, FA_66_1, FA_66_2, FA_82_0, FA_82_1, FA_82_2, FA_86_0, FA_86_1, LEN_29, LEN_32, LEN_47, LEN_48, LEN_79, LEN_116, L0, xIf_dec]
    refine ⟨fun hfew => ?_, fun hmany => ?_⟩
    · exact cwrapK ⟨.inr (.inl ⟨hend, by omega, rfl⟩), hk02⟩
    · refine xE_call CF_36 (solve_ok (s := s0 l) (h.kept0 hk02) hu (fun q hq => (hp q (chosen_mem hq)).kept0 hk02) (fun q hq => by have := hgood q (chosen_mem hq); omega) (by omega) (chosen_nd k l) (fun q hq => (hgood q (chosen_mem hq)).2.2) hsz) ?_
      rintro y w3 ⟨X, hX1, hX2, hX3, hX4, hk3⟩
      exact ⟨.inr (.inr ⟨hend, by omega, y, X, rfl, hX1, hX2, hX3, hX4⟩), hk02.then hk3 (by simp)⟩
theorem rebuild_bad {p k n f : Nat} {cv v : Value} {a : Int} {w : World} (h : CodeIs w p k n f cv) (ha : a < 0 ∨ (n : Int) ≤ a) :
    Gives Tryd.prog 23 #[.pointer (some ⟨p, 0, none⟩), .int .i64 a, v] w fun u w' => u = .tuple #[.slice none 0 0, erV (.flt opCR a (.no 1))] ∧ Kept [] w w' := by
  refine C_code_Code_Rebuild ?_
  unfold S_code_Code_Rebuild
  obtain ⟨va, vc, hv⟩ := h.rows.sl
  rw [crows_len] at hv
  obtain ⟨L0, L1, L2⟩ := h.ld (Kept.refl _ _)
  refine xJoin_of (fun ls w' => ls = [.bool true] ∧ w = w') ?_ ?_
  · simp only [xP_nil, xP_pick, xP_func, xP_not, xP_add, xP_sub, xP_mul, xP_lss, xP_leq, xP_gtr, xP_geq, xP_max2, xP_min2, xR_eql, xR_neq, Nat.zero_add, Nat.add_zero, Nat.reduceAdd, List.getD_cons_zero, List.getD_cons_succ, xIf_true, xIf_false, FA_35_0, FA_35_1, FA_66_0, FA_66_1, FA_66_2, FA_82_0, FA_82_1, FA_82_2, FA_86_0, FA_86_1, LEN_29, LEN_32, LEN_47, LEN_48, LEN_79, LEN_116, L2, xIf_dec]
    refine ⟨fun _ => ⟨by trivial, by trivial⟩, fun h1 => ?_⟩
    rw [hv]
    simp only [xP_nil, xP_pick, xP_func, xP_not, xP_add, xP_sub, xP_mul, xP_lss, xP_leq, xP_gtr, xP_geq, xP_max2, xP_min2, xR_eql, xR_neq, Nat.zero_add, Nat.add_zero, Nat.reduceAdd, List.getD_cons_zero, List.getD_cons_succ, xIf_true, xIf_false, FA_35_0, FA_35_1, FA_66_0, FA_66_1, FA_66_2, FA_82_0, FA_82_1, FA_82_2, FA_86_0, FA_86_1, LEN_29, LEN_32, LEN_47, LEN_48, LEN_79, LEN_116]
    exact ⟨by rw [decide_eq_true (by omega)], by trivial⟩
  rintro _ _ _ ⟨rfl, rfl⟩
  simp only [List.getD_cons_zero, xIf_true]
  exact cwrapK ⟨rfl, Kept.refl _ _⟩
/-- What Rebuild gives. -/
def RebR (w' : World) (k n : Nat) (a : Nat) (l : List Pt) (u : Value) : Prop :=
  (l.findIdx (badPt n l) < l.length ∧ u = .tuple #[.slice none 0 0, erV (.flt opCD (l.findIdx (badPt n l) : Nat) (.no 2))]) ∨
  (l.findIdx (badPt n l) = l.length ∧ (chosenP k l).length < k ∧ u = .tuple #[.slice none 0 0, erV (.flt opCD ((chosenP k l).length : Nat) (.no 3))]) ∨
  (l.findIdx (badPt n l) = l.length ∧ (chosenP k l).length = k ∧ ∃ y X, u = .tuple #[y, .nilIface] ∧ X.length = k ∧ (∀ b ∈ X, b.length = s0 l) ∧ SlT w' encB y (mixP (crow k a) X (s0 l)) ∧ Sol k (s0 l) (fun j => X.getD j []) (ptR k (chosenP k l)))
theorem rebuild_ok {p k n f a : Nat} {cv v : Value} {l : List Pt} {w : World} (h : CodeIs w p k n f cv) (ha : a < n) (hl : SlT w encPt v l) (hp : PtsOk w l) (hll : l.length ≤ 1000000) (hsz : s0 l ≤ 1000000) :
    Gives Tryd.prog 23 #[.pointer (some ⟨p, 0, none⟩), .int .i64 a, v] w fun u w' => RebR w' k n a l u ∧ Kept [] w w' := by
  have hk1 := h.k1
  refine C_code_Code_Rebuild ?_
  unfold S_code_Code_Rebuild
  obtain ⟨va, vc, hv⟩ := h.rows.sl
  rw [crows_len] at hv
  obtain ⟨L0, L1, L2⟩ := h.ld (Kept.refl _ _)
  refine xJoin_of (fun ls w' => ls = [.bool false] ∧ w = w') ?_ ?_
  · simp only [xP_nil, xP_pick, xP_func, xP_not, xP_add, xP_sub, xP_mul, xP_lss, xP_leq, xP_gtr, xP_geq, xP_max2, xP_min2, xR_eql, xR_neq, Nat.zero_add, Nat.add_zero, Nat.reduceAdd, List.getD_cons_zero, List.getD_cons_succ, xIf_true, xIf_false, FA_35_0, FA_35_1, FA_66_0, FA_66_1, FA_66_2, FA_82_0, FA_82_1, FA_82_2, FA_86_0, FA_86_1, LEN_29, LEN_32, LEN_47, LEN_48, LEN_79, LEN_116, L2, xIf_dec]
    refine ⟨fun h1 => by omega, fun h1 => ?_⟩
    rw [hv]
    simp only [xP_nil, xP_pick, xP_func, xP_not, xP_add, xP_sub, xP_mul, xP_lss, xP_leq, xP_gtr, xP_geq, xP_max2, xP_min2, xR_eql, xR_neq, Nat.zero_add, Nat.add_zero, Nat.reduceAdd, List.getD_cons_zero, List.getD_cons_succ, xIf_true, xIf_false, FA_35_0, FA_35_1, FA_66_0, FA_66_1, FA_66_2, FA_82_0, FA_82_1, FA_82_2, FA_86_0, FA_86_1, LEN_29, LEN_32, LEN_47, LEN_48, LEN_79, LEN_116]
    exact ⟨by rw [decide_eq_false (by omega)], by trivial⟩
  rintro _ _ _ ⟨rfl, rfl⟩
  simp only [List.getD_cons_zero, xIf_false]
  refine xE_call CF_15 (decode_ok h hl hp hll hsz) ?_
  rintro _ w1 ⟨hdec, hk⟩
  rcases hdec with ⟨h1, rfl⟩ | ⟨h1, h2, rfl⟩ | ⟨h1, h2, y, X, rfl, hX1, hX2, hX3, hX4⟩
  · simp only [xP_ex0, xP_ex1]
    refine erV_neq.2 ?_
    simp only [xIf_true]
    exact ⟨.inl ⟨h1, rfl⟩, hk⟩
  · simp only [xP_ex0, xP_ex1]
    refine erV_neq.2 ?_
    simp only [xIf_true]
    exact ⟨.inr (.inl ⟨h1, h2, rfl⟩), hk⟩
  · simp only [xP_ex0, xP_ex1]
    refine (xR_neqN IFE).2 ?_
    obtain ⟨M0, M1, M2⟩ := h.ld hk
    simp only [xP_nil, xP_pick, xP_func, xP_not, xP_add, xP_sub, xP_mul, xP_lss, xP_leq, xP_gtr, xP_geq, xP_max2, xP_min2, xR_eql, xR_neq, Nat.zero_add, Nat.add_zero, Nat.reduceAdd, List.getD_cons_zero, List.getD_cons_succ, xIf_true, xIf_false, FA_35_0, FA_35_1, FA_66_0, FA_66_1, FA_66_2, FA_82_0, FA_82_1, FA_82_2, FA_86_0, FA_86_1, LEN_29, LEN_32, LEN_47, LEN_48, LEN_79, LEN_116, M2]
    refine h.rows.get rowW hk (by rw [crows_len]; exact ha) fun r hr => ?_
    rw [crows_get ha] at hr
    refine xE_call CF_34 (mix_ok (h.kept0 hk) (hr.kept0 hk) hX3 (by rw [crow_len, hX1]) (by omega) hX2 hsz (by have := h.kn; have := h.n8; omega)) ?_
    rintro _ w2 ⟨q, rfl, hq, hqx, _, hk2⟩
    refine ⟨.inr (.inr ⟨h1, h2, q.v, X, rfl, hX1, hX2, ?_, hX4⟩), hk.then hk2 (by simp)⟩
    rw [← hqx]
    exact hq.slT
theorem delta_bad {p k n f : Nat} {cv u v : Value} {a b : Int} {x y : List UInt8} {w : World} (h : CodeIs w p k n f cv) (hu : SlT w encB u x) (hv : SlT w encB v y) (hb : a < 0 ∨ (n : Int) ≤ a ∨ b < 0 ∨ (k : Int) ≤ b ∨ x.length ≠ y.length) :
    Gives Tryd.prog 25 #[.pointer (some ⟨p, 0, none⟩), .int .i64 a, .int .i64 b, u, v] w fun r w' => r = .tuple #[.slice none 0 0, erV (.flt opCX a (.no 1))] ∧ Kept [] w w' := by
  refine C_code_Code_Delta ?_
  unfold S_code_Code_Delta
  obtain ⟨ca, cc, hcv⟩ := h.rows.sl
  rw [crows_len] at hcv
  obtain ⟨ua, uc, rfl, _, _⟩ := hu
  obtain ⟨va, vc, rfl, _, _⟩ := hv
  obtain ⟨L0, L1, L2⟩ := h.ld (Kept.refl _ _)
  refine xJoin_of (fun ls w' => ls = [.bool true] ∧ w = w') ?_ ?_
  · simp only [xP_nil, xP_pick, xP_func, xP_not, xP_add, xP_sub, xP_mul, xP_lss, xP_leq, xP_gtr, xP_geq, xP_max2, xP_min2, xR_eql, xR_neq, Nat.zero_add, Nat.add_zero, Nat.reduceAdd, List.getD_cons_zero, List.getD_cons_succ, xIf_true, xIf_false, FA_35_0, FA_35_1, FA_66_0, FA_66_1, FA_66_2, FA_82_0, FA_82_1, FA_82_2, FA_86_0, FA_86_1, LEN_29, LEN_32, LEN_47, LEN_48, LEN_79, LEN_116, L0, L2, xIf_dec]
    refine ⟨fun _ => ⟨by trivial, by trivial⟩, fun h1 => ?_⟩
    rw [hcv]
    simp only [xP_nil, xP_pick, xP_func, xP_not, xP_add, xP_sub, xP_mul, xP_lss, xP_leq, xP_gtr, xP_geq, xP_max2, xP_min2, xR_eql, xR_neq, Nat.zero_add, Nat.add_zero, Nat.reduceAdd, List.getD_cons_zero, List.getD_cons_succ, xIf_true, xIf_false, FA_35_0, FA_35_1, FA_66_0, FA_66_1, FA_66_2, FA_82_0, FA_82_1, FA_82_2, FA_86_0, FA_86_1, LEN_29, LEN_32, LEN_47, LEN_48, LEN_79, LEN_116, xIf_dec]
    exact ⟨fun _ => ⟨by trivial, by trivial⟩, fun h2 => ⟨fun _ => ⟨by trivial, by trivial⟩, fun h3 => ⟨fun _ => ⟨by trivial, by trivial⟩, fun h4 => ⟨by rw [decide_eq_true (by omega)], by trivial⟩⟩⟩⟩
  rintro _ _ _ ⟨rfl, rfl⟩
  simp only [List.getD_cons_zero, xIf_true]
  exact cwrapK ⟨rfl, Kept.refl _ _⟩
theorem delta_ok {p k n f a b : Nat} {cv u v : Value} {x y : List UInt8} {w : World} (h : CodeIs w p k n f cv) (hu : SlT w encB u x) (hv : SlT w encB v y) (ha : a < n) (hb : b < k) (hxy : x.length = y.length) (hs : x.length ≤ 1000000) :
    Gives Tryd.prog 25 #[.pointer (some ⟨p, 0, none⟩), .int .i64 a, .int .i64 b, u, v] w fun r w' => ∃ z, r = .tuple #[z, .nilIface] ∧ SlT w' encB z (mulAdd (mulAdd (List.replicate x.length 0) x (coef k a b)) y (coef k a b)) ∧ Kept [] w w' := by
  refine C_code_Code_Delta ?_
  unfold S_code_Code_Delta
  have hu0 := hu
  have hv0 := hv
  obtain ⟨ca, cc, hcv⟩ := h.rows.sl
  rw [crows_len] at hcv
  obtain ⟨ua, uc, rfl, _, _⟩ := hu
  obtain ⟨va, vc, rfl, _, _⟩ := hv
  obtain ⟨L0, L1, L2⟩ := h.ld (Kept.refl _ _)
  refine xJoin_of (fun ls w' => ls = [.bool false] ∧ w = w') ?_ ?_
  · simp only [xP_nil, xP_pick, xP_func, xP_not, xP_add, xP_sub, xP_mul, xP_lss, xP_leq, xP_gtr, xP_geq, xP_max2, xP_min2, xR_eql, xR_neq, Nat.zero_add, Nat.add_zero, Nat.reduceAdd, List.getD_cons_zero, List.getD_cons_succ, xIf_true, xIf_false, FA_35_0, FA_35_1, FA_66_0, FA_66_1, FA_66_2, FA_82_0, FA_82_1, FA_82_2, FA_86_0, FA_86_1, LEN_29, LEN_32, LEN_47, LEN_48, LEN_79, LEN_116, L0, L2, xIf_dec]
    refine ⟨fun h1 => by omega, fun h1 => ?_⟩
    rw [hcv]
    simp only [xP_nil, xP_pick, xP_func, xP_not, xP_add, xP_sub, xP_mul, xP_lss, xP_leq, xP_gtr, xP_geq, xP_max2, xP_min2, xR_eql, xR_neq, Nat.zero_add, Nat.add_zero, Nat.reduceAdd, List.getD_cons_zero, List.getD_cons_succ, xIf_true, xIf_false, FA_35_0, FA_35_1, FA_66_0, FA_66_1, FA_66_2, FA_82_0, FA_82_1, FA_82_2, FA_86_0, FA_86_1, LEN_29, LEN_32, LEN_47, LEN_48, LEN_79, LEN_116, xIf_dec]
    exact ⟨fun h2 => by omega, fun h2 => ⟨fun h3 => by omega, fun h3 => ⟨fun h4 => by omega, fun h4 => ⟨by rw [decide_eq_false (by omega)], by trivial⟩⟩⟩⟩
  rintro _ _ _ ⟨rfl, rfl⟩
  simp only [List.getD_cons_zero, xIf_false, xP_nil, xP_pick, xP_func, xP_not, xP_add, xP_sub, xP_mul, xP_lss, xP_leq, xP_gtr, xP_geq, xP_max2, xP_min2, xR_eql, xR_neq, Nat.zero_add, Nat.add_zero, Nat.reduceAdd, List.getD_cons_zero, List.getD_cons_succ, xIf_true, xIf_false, FA_35_0, FA_35_1, FA_66_0, FA_66_1, FA_66_2, FA_82_0, FA_82_1, FA_82_2, FA_86_0, FA_86_1, LEN_29, LEN_32, LEN_47, LEN_48, LEN_79, LEN_116]
  refine makeB hs fun w1 ho1 hk1 hz1 => ?_
  obtain ⟨M0, M1, M2⟩ := h.ld hk1
  simp only [xP_nil, xP_pick, xP_func, xP_not, xP_add, xP_sub, xP_mul, xP_lss, xP_leq, xP_gtr, xP_geq, xP_max2, xP_min2, xR_eql, xR_neq, Nat.zero_add, Nat.add_zero, Nat.reduceAdd, List.getD_cons_zero, List.getD_cons_succ, xIf_true, xIf_false, FA_35_0, FA_35_1, FA_66_0, FA_66_1, FA_66_2, FA_82_0, FA_82_1, FA_82_2, FA_86_0, FA_86_1, LEN_29, LEN_32, LEN_47, LEN_48, LEN_79, LEN_116, M1, M2]
  refine h.rows.get rowW hk1 (by rw [crows_len]; exact ha) fun r hr => ?_
  rw [crows_get ha] at hr
  refine (byteAt (hr.kept0 hk1) (by rw [crow_len]; exact hb)).2 ?_
  rw [crow_get hb]
  have hfl := h.fld.lt
  have hl1 : (List.replicate x.length (0 : UInt8)).length = x.length := List.length_replicate
  refine xE_call CF_39 (fadd_ok (xs := List.replicate x.length 0) (ys := x) (F := [w.heap.size]) (h.fld.kept hk1 (by simp)) (by simp; omega) (by rw [hl1]; exact ho1) (hu0.kept0 hk1) hl1 (fun h0 b o n c e => by have := hu0.base8 h0 b o n c e; simp; omega) (by rw [hl1]; exact hs)) ?_
  rintro _ w2 ⟨ho2, hk2⟩
  have hk02 : Kept [] w w2 := hk1.then hk2 (fun g hg => by simp at hg; exact .inr (by omega))
  obtain ⟨N0, N1, N2⟩ := h.ld hk02
  simp only [xP_nil, xP_pick, xP_func, xP_not, xP_add, xP_sub, xP_mul, xP_lss, xP_leq, xP_gtr, xP_geq, xP_max2, xP_min2, xR_eql, xR_neq, Nat.zero_add, Nat.add_zero, Nat.reduceAdd, List.getD_cons_zero, List.getD_cons_succ, xIf_true, xIf_false, FA_35_0, FA_35_1, FA_66_0, FA_66_1, FA_66_2, FA_82_0, FA_82_1, FA_82_2, FA_86_0, FA_86_1, LEN_29, LEN_32, LEN_47, LEN_48, LEN_79, LEN_116, N1]
  have hl2 := mulAdd_len hl1 (coef k a b)
  rw [hl1] at hl2
  rw [hl1] at ho2
  refine xE_call CF_39 (fadd_ok (xs := mulAdd (List.replicate x.length 0) x (coef k a b)) (ys := y) (F := [w.heap.size]) (h.fld.kept hk02 (by simp)) (by simp; omega) (by rw [hl2]; exact ho2) (hv0.kept0 hk02) (by rw [hl2, hxy]) (fun h0 b o n c e => by have := hv0.base8 h0 b o n c e; simp; omega) (by rw [hl2]; exact hs)) ?_
  rintro _ w3 ⟨ho3, hk3⟩
  refine ⟨_, rfl, ?_, hk02.then hk3 (fun g hg => by simp at hg; exact .inr (by omega))⟩
  refine Own.slT (sz := 1) (E := 5) (F := [w.heap.size]) ?_ encB_len (by omega)
  rw [mulAdd_len (by rw [hl2, hxy])]
  exact ho3
end Go.Proofs.YtoanmeohlpdjfaaDoor
