import Derived.Test.YtoanmeohlpdjfaaDoorXcCodeM
namespace Go.Proofs.YtoanmeohlpdjfaaDoor
set_option linter.unusedSimpArgs false
set_option linter.unusedVariables false
set_option maxRecDepth 100000
attribute [local irreducible] Go.X.xE
open Go Go.X Go.RowKit

/-! ## The document's Decode -/
structure PS (w w1 : World) (mb : Nat) (rv dv : Value) (rs : List Rq) (G : List Nat) (wd : List (Value × List UInt8)) (H : List Nat) : Prop where
  o : Out 32 5 w w1 rv rs G
  d : OwnW w1 dv wd H
  rd : ∀ g ∈ Bl rs G, mb < g ∧ g ∉ H
  hd : ∀ g ∈ H, mb < g
  lt : mb < w1.heap.size
  fr : w.heap.size ≤ mb
section
variable {w w1 w2 : World} {mb : Nat} {rv dv : Value} {rs : List Rq} {G H : List Nat} {wd : List (Value × List UInt8)}
theorem PS.kept0 (h : PS w w1 mb rv dv rs G wd H) (hk : Kept [] w1 w2) : PS w w2 mb rv dv rs G wd H := ⟨h.o.kept0 hk, h.d.kept hk (by simp), h.rd, h.hd, Nat.lt_of_lt_of_le h.lt hk.size, h.fr⟩
theorem PS.keptM (h : PS w w1 mb rv dv rs G wd H) (hk : Kept [mb] w1 w2) : PS w w2 mb rv dv rs G wd H :=
  ⟨Out.keptB h.o hk (fun g hg hm => by simp at hm; have := (h.rd g hg).1; omega), h.d.kept hk (fun g hg hm => by simp at hm; have := h.hd g hg; omega), h.rd, h.hd, Nat.lt_of_lt_of_le h.lt hk.size, h.fr⟩
theorem PS.app1 (h : PS w w1 mb rv dv rs G wd H) {r : Rq} (hr : r.Ok 5 w1) (hf : ∀ g ∈ r.F, mb < g ∧ g ∉ Bl rs G ∧ g ∉ H) {b o c : Nat} (hat : At w1 b o [r.v]) (hl : rs.length < 1000) {K : Value → World → Prop}
    (k : ∀ u w2 G', PS w w2 mb u dv (rs ++ [r]) G' wd H → Kept G w1 w2 → K u w2) : xE Tryd.prog (sB .append #[29, 29] #[rv, .slice (some ⟨b, o, none⟩) 1 c]) w1 fun u w2 => K u w2 := by
  have hfr := h.fr
  have hlt := h.lt
  refine h.o.app EL_29 hr (fun g hg => ⟨by have := (hf g hg).1; omega, fun hm => (hf g hg).2.1 (List.mem_append_left _ hm), fun q hq hm => (hf g hg).2.1 (List.mem_append_right _ (List.mem_flatMap.2 ⟨q, hq, hm⟩))⟩) hat (by omega) (by omega) (by omega) fun u w2 G' ho hk hG' => ?_
  have hGH : ∀ g ∈ H, g ∉ G := fun g hg hm => (h.rd g (List.mem_append_left _ hm)).2 hg
  have hdl := h.d.lt
  refine k u w2 G' ⟨ho, h.d.kept hk hGH, fun g hg => ?_, h.hd, Nat.lt_of_lt_of_le h.lt hk.size, h.fr⟩ hk
  rcases List.mem_append.1 hg with hg | hg
  · rcases hG' g hg with hg | hg
    · exact h.rd g (List.mem_append_left _ hg)
    · exact ⟨by omega, fun hm => by have := hdl g hm; omega⟩
  · rw [List.flatMap_append] at hg
    rcases List.mem_append.1 hg with hg | hg
    · exact h.rd g (List.mem_append_right _ hg)
    · simp at hg
      exact ⟨(hf g hg).1, (hf g hg).2.2⟩
theorem PS.app2 (h : PS w w1 mb rv dv rs G wd H) {u : Value} {d : List UInt8} (hu : u.oneCell' = true) {b o c : Nat} (hat : At w1 b o [u]) (hl : wd.length < 1000) {K : Value → World → Prop}
    (k : ∀ x w2 H', PS w w2 mb rv x rs G (wd ++ [(u, d)]) H' → Kept H w1 w2 → K x w2) : xE Tryd.prog (sB .append #[29, 29] #[dv, .slice (some ⟨b, o, none⟩) 1 c]) w1 fun x w2 => K x w2 := by
  have hlt := h.lt
  refine xE_append (m := 1) EL_29 h.d hat rfl (by intro y hy; simp at hy; subst hy; exact hu) (by omega) (by unfold maxLen; omega) (by omega) fun x w2 H' ho hk hH' _ => ?_
  have hbl := Out.bl_lt h.o
  refine k x w2 H' ⟨Out.keptB h.o hk (fun g hg => (h.rd g hg).2), ?_, fun g hg => ⟨(h.rd g hg).1, fun hm => ?_⟩, fun g hg => (hH' g hg).elim (h.hd g) (fun h => by omega), Nat.lt_of_lt_of_le h.lt hk.size, h.fr⟩ hk
  · show Own w2 _ 1 x (wd ++ [(u, d)]).length _ H'
    rw [List.flatMap_append, List.length_append]
    exact ho
  · rcases hH' g hm with hm | hm
    · exact (h.rd g hg).2 hm
    · have := hbl g hg; omega
end
theorem inv_sol {k s : Nat} {M X D : List (List UInt8)} (hD : D.length = k) (hsol : Sol k k (fun j => X.getD j []) (invR k M)) {t y : Nat} (ht : t < k) (hy : y < s) : (D.getD t []).getD y 0 = lin k (M.getD t []) fun j => (mixP (X.getD j []) D s).getD y 0 := by
  have e1 : (lin k (M.getD t []) fun j => (mixP (X.getD j []) D s).getD y 0) = xsum (List.range k) fun j => xsum (List.range k) fun c => umul (umul ((M.getD t []).getD j 0) ((X.getD j []).getD c 0)) ((D.getD c []).getD y 0) := by
    unfold lin
    refine xsum_congr fun j _ => ?_
    show umul ((M.getD t []).getD j 0) ((mixP (X.getD j []) D s).getD y 0) = _
    rw [mixP_get hy, hD]
    unfold lin
    rw [xsum_mul]
    exact xsum_congr fun c _ => umul_assoc _ _ _
  rw [e1, xsum_swap]
  have e2 : ∀ c ∈ List.range k, xsum (List.range k) (fun j => umul (umul ((M.getD t []).getD j 0) ((X.getD j []).getD c 0)) ((D.getD c []).getD y 0)) = umul (if t = c then 1 else 0) ((D.getD c []).getD y 0) := fun c hc => by
    have hck := List.mem_range.1 hc
    have hs := hsol t ht c hck
    unfold invR at hs
    simp only at hs
    rw [idr_get hck] at hs
    rw [hs, umul_comm]
    unfold lin
    rw [xsum_mul]
    exact xsum_congr fun j _ => by rw [umul_comm]
  rw [xsum_congr e2, xsum_single (a := t) List.nodup_range (List.mem_range.2 ht) fun b _ hb => by rw [if_neg (fun e => hb e.symm), zero_umul], if_pos rfl, one_umul]
def RdecR (w' : World) (k n : Nat) (l : List Pt) (u : Value) : Prop :=
  (l.findIdx (badPt n l) < l.length ∧ u = .tuple #[.slice none 0 0, .int .i64 2]) ∨
  (l.findIdx (badPt n l) = l.length ∧ (chosenP k l).length < k ∧ u = .tuple #[.slice none 0 0, .int .i64 3]) ∨
  (l.findIdx (badPt n l) = l.length ∧ (chosenP k l).length = k ∧ ∃ y X, u = .tuple #[y, .int .i64 0] ∧ X.length = k ∧ (∀ b ∈ X, b.length = s0 l) ∧ RowsT w' y X ∧ Sol k (s0 l) (fun j => X.getD j []) (ptR k (chosenP k l)))
theorem rdec_ok {k n : Nat} {v : Value} {l : List Pt} {w : World} (hk1 : 1 ≤ k) (hkn : k ≤ n) (hn8 : n ≤ 8) (hl : SlT w encPt v l) (hp : PtsOk w l) (hll : l.length ≤ 1000000) (hsz : s0 l ≤ 1000000) :
    Gives Tryd.prog 22 #[.int .i64 k, .int .i64 n, v] w fun u w' => RdecR w' k n l u ∧ Kept [] w w' := by
  refine C_staveref1_Decode ?_
  unfold S_staveref1_Decode
  refine xE_call CF_37 (row_ok (a := 0) hk1 hkn hn8 (by omega)) ?_
  rintro _ w1 ⟨rfl, _, hk01⟩
  refine (xR_eqlSl USB).2 ?_
  simp only [Option.isNone_some, xIf_false]
  refine xE_alloc Z_49 fun w2 hb2 hk2 hz2 => ?_
  have hb2 : Blk w2 w1.heap.size 49 (metB fun _ => false) := hb2
  have hz01 := hk01.size
  have hk02 := hk01.then hk2 (by simp)
  generalize hmb : w1.heap.size = mb at *
  obtain ⟨la, lc, rfl, hlc, hlr⟩ := hl
  have hl : SlT w encPt (.slice la l.length lc) l := ⟨la, lc, rfl, hlc, hlr⟩
  refine (xP_len SL_48).2 ?_
  refine xLoop_of (fun ls w' => ∃ (i : Nat) (rv dv : Value) (rs : List Rq) (G : List Nat) (wd : List (Value × List UInt8)) (H : List Nat) (fm : Nat → Bool), ls = [rv, dv, .int .i64 i] ∧ i ≤ l.length ∧ (∀ j, (hj : j < l.length) → j < i → badPt n l l[j] = false) ∧ PS w w' mb rv dv rs G wd H ∧ (∀ r ∈ wd, SlT w encB r.1 r.2) ∧ rs.map Rq.x = (chosenP k (l.take i)).map (fun q => crow k q.at_.toNat) ∧ wd.map (·.2) = (chosenP k (l.take i)).map Pt.d ∧ Blk w' mb 49 (metB fm) ∧ (∀ j, j < 8 → fm j = hasAt (chosenP k (l.take i)) (j : Nat)) ∧ Kept [] w w')
    (fun ls _ => match ls with | [_, _, .int _ i] => l.length - i.toNat | _ => 0) ⟨0, _, _, [], [], [], [], fun _ => false, rfl, by omega, fun j _ h => by omega, ⟨out_nil _ _, own_nil _ _ _, by simp [Bl], by simp, by omega, hz01⟩, by simp, rfl, rfl, hb2, fun _ _ => rfl, hk02⟩ ?_
  rintro _ _ w3 ⟨i, rv, dv, rs, G, wd, H, fm, rfl, hi, hbad, hPS, hwd, hrx, hdx, hbm, hfm, hk3⟩
  have hrl : rs.length = (chosenP k (l.take i)).length := by have := congrArg List.length hrx; rwa [List.length_map, List.length_map] at this
  have hdl : wd.length = (chosenP k (l.take i)).length := by have := congrArg List.length hdx; rwa [List.length_map, List.length_map] at this
  have hcl : (chosenP k (l.take i)).length ≤ k := chosen_le _ _
  have hz3 := hk3.size
  have hfr := hPS.fr
  simp only [xP_nil, xP_pick, xP_func, xP_not, xP_add, xP_sub, xP_mul, xP_lss, xP_leq, xP_gtr, xP_geq, xP_max2, xP_min2, xR_eql, xR_neq, Nat.zero_add, Nat.add_zero, Nat.reduceAdd, List.getD_cons_zero, List.getD_cons_succ, xIf_true, xIf_false, FA_35_0, FA_35_1, FA_66_0, FA_66_1, FA_66_2, FA_82_0, FA_82_1, FA_82_2, FA_86_0, FA_86_1, LEN_29, LEN_32, LEN_47, LEN_48, LEN_79, LEN_116, xIf_dec]
  refine ⟨fun hlt => ?_, fun hge => ?_⟩
  · have hi1 : i < l.length := by omega
    have hqok := hp _ (List.getElem_mem hi1)
    have hfi : badPt n l l[i] = true → l.findIdx (badPt n l) = i := fun hbt => (List.findIdx_eq hi1).2 ⟨hbt, fun j hj => hbad j (by omega) hj⟩
    refine xJoin_of (fun ls w' => ∃ (rv dv : Value) (rs : List Rq) (G : List Nat) (wd : List (Value × List UInt8)) (H : List Nat) (fm : Nat → Bool), ls = [rv, dv] ∧ badPt n l l[i] = false ∧ PS w w' mb rv dv rs G wd H ∧ (∀ r ∈ wd, SlT w encB r.1 r.2) ∧ rs.map Rq.x = (chosenP k (l.take (i + 1))).map (fun q => crow k q.at_.toNat) ∧ wd.map (·.2) = (chosenP k (l.take (i + 1))).map Pt.d ∧ Blk w' mb 49 (metB fm) ∧ (∀ j, j < 8 → fm j = hasAt (chosenP k (l.take (i + 1))) (j : Nat)) ∧ Kept [] w w') ?_ ?_
    · refine takePt hl hp hk3 hi1 fun w4 hbp hk4 hz4 => ?_
      have hd4 := kept_drew [] w4
      have hk04 := (hk3.then hk4 (by simp)).then hd4 (by simp)
      have hbp : Blk w4.drew w3.heap.size 35 (encPt l[i]) := hbp
      have hPS4 := (hPS.kept0 hk4).kept0 hd4
      have hbm4 : Blk w4.drew mb 49 (metB fm) := (hbm.kept hk4 (by simp)).kept hd4 (by simp)
      have hblt : ∀ g ∈ Bl rs G, g < w3.heap.size := Out.bl_lt hPS.o
      have hHlt : ∀ g ∈ H, g < w3.heap.size := hPS.d.lt
      have hplt := hPS.lt
      obtain ⟨qa, qc, hqv, _, _⟩ := hqok
      refine xJoin_of (fun ls w' => ls = [.bool (badPt n l l[i])] ∧ w4.drew = w') ?_ ?_
      · have c0 : w4.drew.cell? ⟨w3.heap.size, 0, none⟩ = some (.int .i64 l[i].at_) := hbp.cell (o := 0)
        have c1 : w4.drew.cell? ⟨w3.heap.size, 1, none⟩ = some l[i].v := hbp.cell (o := 1)
        simp only [xP_nil, xP_pick, xP_func, xP_not, xP_add, xP_sub, xP_mul, xP_lss, xP_leq, xP_gtr, xP_geq, xP_max2, xP_min2, xR_eql, xR_neq, Nat.zero_add, Nat.add_zero, Nat.reduceAdd, List.getD_cons_zero, List.getD_cons_succ, xIf_true, xIf_false, FA_35_0, FA_35_1, FA_66_0, FA_66_1, FA_66_2, FA_82_0, FA_82_1, FA_82_2, FA_86_0, FA_86_1, LEN_29, LEN_32, LEN_47, LEN_48, LEN_79, LEN_116]
        refine (ld1 ONE_3 c0).2 ?_
        simp only [xP_nil, xP_pick, xP_func, xP_not, xP_add, xP_sub, xP_mul, xP_lss, xP_leq, xP_gtr, xP_geq, xP_max2, xP_min2, xR_eql, xR_neq, Nat.zero_add, Nat.add_zero, Nat.reduceAdd, List.getD_cons_zero, List.getD_cons_succ, xIf_true, xIf_false, FA_35_0, FA_35_1, FA_66_0, FA_66_1, FA_66_2, FA_82_0, FA_82_1, FA_82_2, FA_86_0, FA_86_1, LEN_29, LEN_32, LEN_47, LEN_48, LEN_79, LEN_116, xIf_dec]
        refine ⟨fun h1 => ⟨by unfold badPt; rw [decide_eq_true (.inl h1)], by trivial⟩, fun h1 => ?_⟩
        refine (ld1 ONE_3 c0).2 ?_
        simp only [xP_nil, xP_pick, xP_func, xP_not, xP_add, xP_sub, xP_mul, xP_lss, xP_leq, xP_gtr, xP_geq, xP_max2, xP_min2, xR_eql, xR_neq, Nat.zero_add, Nat.add_zero, Nat.reduceAdd, List.getD_cons_zero, List.getD_cons_succ, xIf_true, xIf_false, FA_35_0, FA_35_1, FA_66_0, FA_66_1, FA_66_2, FA_82_0, FA_82_1, FA_82_2, FA_86_0, FA_86_1, LEN_29, LEN_32, LEN_47, LEN_48, LEN_79, LEN_116, xIf_dec]
        refine ⟨fun h2 => ⟨by unfold badPt; rw [decide_eq_true (.inr (.inl h2))], by trivial⟩, fun h2 => ?_⟩
        refine (ld1 ONE_32 c1).2 ?_
        rw [hqv]
        simp only [xP_nil, xP_pick, xP_func, xP_not, xP_add, xP_sub, xP_mul, xP_lss, xP_leq, xP_gtr, xP_geq, xP_max2, xP_min2, xR_eql, xR_neq, Nat.zero_add, Nat.add_zero, Nat.reduceAdd, List.getD_cons_zero, List.getD_cons_succ, xIf_true, xIf_false, FA_35_0, FA_35_1, FA_66_0, FA_66_1, FA_66_2, FA_82_0, FA_82_1, FA_82_2, FA_86_0, FA_86_1, LEN_29, LEN_32, LEN_47, LEN_48, LEN_79, LEN_116]
        have h0 : 0 < l.length := by omega
        obtain ⟨pa, pc, hpv, _, _⟩ := hp _ (List.getElem_mem h0)
        have key : ∀ {R : Value → Prop}, (xP Tryd.prog (sIA 48 (.slice la l.length lc) (.int .i64 0)) fun v => xP Tryd.prog (sFA 35 v 1) fun c => xR Tryd.prog (sLoad 32 c) w4.drew R) ↔ R l[0].v := fun {R} => rowPt.fld (i := 0) hl hk04 h0 (show fieldB Tryd.prog 35 1 1 = true by kernel_rfl) ONE_32 rfl
        refine key.2 ?_
        rw [hpv]
        simp only [xP_nil, xP_pick, xP_func, xP_not, xP_add, xP_sub, xP_mul, xP_lss, xP_leq, xP_gtr, xP_geq, xP_max2, xP_min2, xR_eql, xR_neq, Nat.zero_add, Nat.add_zero, Nat.reduceAdd, List.getD_cons_zero, List.getD_cons_succ, xIf_true, xIf_false, FA_35_0, FA_35_1, FA_66_0, FA_66_1, FA_66_2, FA_82_0, FA_82_1, FA_82_2, FA_86_0, FA_86_1, LEN_29, LEN_32, LEN_47, LEN_48, LEN_79, LEN_116]
        refine ⟨?_, by trivial⟩
        unfold badPt s0
        rw [getD_lt h0]
        rw [decide_eq_decide.2 (show ((l[i].d.length : Int) ≠ (l[0].d.length : Nat)) ↔ (l[i].at_ < 0 ∨ (n : Int) ≤ l[i].at_ ∨ l[i].d.length ≠ l[0].d.length) by omega)]
      rintro _ _ _ ⟨rfl, rfl⟩
      simp only [List.getD_cons_zero]
      cases hbt : badPt n l l[i] with
      | true =>
        simp only [xIf_true]
        exact ⟨.inl ⟨by rw [hfi hbt]; exact hi1, rfl⟩, hk04⟩
      | false =>
        simp only [xIf_false]
        rw [chosen_take hi1]
        have hq := hp _ (List.getElem_mem hi1)
        have hgd : 0 ≤ l[i].at_ ∧ l[i].at_ < n := by
          have := hbt
          unfold badPt at this
          simp only [decide_eq_false_iff_not, not_or] at this
          omega
        clear hfi hbt hqv
        generalize l[i] = q at *
        obtain ⟨a, qv, d⟩ := q
        obtain ⟨t, rfl⟩ := Int.eq_ofNat_of_zero_le hgd.1
        have htn : t < n := by have := hgd.2; simp at this; omega
        have ht : t < 8 := by omega
        generalize chosenP k (l.take i) = out at *
        have hbp : Blk w4.drew w3.heap.size 35 [.int .i64 t, qv] := hbp
        refine xJoin_of (fun ls w' => ls = [.bool (decide (¬ (hasAt out (t : Nat) = true ∨ out.length = k)))] ∧ w4.drew = w') ?_ ?_
        · simp only [xP_nil, xP_pick, xP_func, xP_not, xP_add, xP_sub, xP_mul, xP_lss, xP_leq, xP_gtr, xP_geq, xP_max2, xP_min2, xR_eql, xR_neq, Nat.zero_add, Nat.add_zero, Nat.reduceAdd, List.getD_cons_zero, List.getD_cons_succ, xIf_true, xIf_false, FA_35_0, FA_35_1, FA_66_0, FA_66_1, FA_66_2, FA_82_0, FA_82_1, FA_82_2, FA_86_0, FA_86_1, LEN_29, LEN_32, LEN_47, LEN_48, LEN_79, LEN_116]
          refine (ld1 ONE_3 (v := .int .i64 t) (hbp.cell (o := 0))).2 ?_
          refine (xP_IAarr AR8B SZ_4 ht).2 ?_
          rw [Nat.zero_add, Nat.mul_one]
          refine (ld1 ONE_4 ((hbm4.cell (o := t)).trans (metB_get ht))).2 ?_
          rw [hfm t ht]
          cases hh : hasAt out (t : Nat) with
          | true =>
            simp only [xP_nil, xP_pick, xP_func, xP_not, xP_add, xP_sub, xP_mul, xP_lss, xP_leq, xP_gtr, xP_geq, xP_max2, xP_min2, xR_eql, xR_neq, Nat.zero_add, Nat.add_zero, Nat.reduceAdd, List.getD_cons_zero, List.getD_cons_succ, xIf_true, xIf_false, FA_35_0, FA_35_1, FA_66_0, FA_66_1, FA_66_2, FA_82_0, FA_82_1, FA_82_2, FA_86_0, FA_86_1, LEN_29, LEN_32, LEN_47, LEN_48, LEN_79, LEN_116, Bool.not_true]
            exact ⟨by simp, by trivial⟩
          | false =>
            simp only [xP_nil, xP_pick, xP_func, xP_not, xP_add, xP_sub, xP_mul, xP_lss, xP_leq, xP_gtr, xP_geq, xP_max2, xP_min2, xR_eql, xR_neq, Nat.zero_add, Nat.add_zero, Nat.reduceAdd, List.getD_cons_zero, List.getD_cons_succ, xIf_true, xIf_false, FA_35_0, FA_35_1, FA_66_0, FA_66_1, FA_66_2, FA_82_0, FA_82_1, FA_82_2, FA_86_0, FA_86_1, LEN_29, LEN_32, LEN_47, LEN_48, LEN_79, LEN_116, Bool.not_false]
            refine (lenOwn hPS4.o.own).2 ?_
            simp only [xP_nil, xP_pick, xP_func, xP_not, xP_add, xP_sub, xP_mul, xP_lss, xP_leq, xP_gtr, xP_geq, xP_max2, xP_min2, xR_eql, xR_neq, Nat.zero_add, Nat.add_zero, Nat.reduceAdd, List.getD_cons_zero, List.getD_cons_succ, xIf_true, xIf_false, FA_35_0, FA_35_1, FA_66_0, FA_66_1, FA_66_2, FA_82_0, FA_82_1, FA_82_2, FA_86_0, FA_86_1, LEN_29, LEN_32, LEN_47, LEN_48, LEN_79, LEN_116]
            refine ⟨?_, by trivial⟩
            rw [hrl, decide_eq_decide.2 (show ((out.length : Int) < (k : Nat)) ↔ ¬ (false = true ∨ out.length = k) by simp; omega)]
        rintro _ _ _ ⟨rfl, rfl⟩
        simp only [List.getD_cons_zero, xIf_dec]
        refine ⟨fun hnot => ?_, fun hskip => ?_⟩
        · have hpk : pick k out ⟨(t : Nat), qv, d⟩ = out ++ [⟨(t : Nat), qv, d⟩] := if_neg hnot
          have hh : hasAt out (t : Nat) = false := by
            cases h : hasAt out (t : Nat) with
            | true => exact absurd (.inl h) hnot
            | false => rfl
          rw [hpk]
          simp only [xP_nil, xP_pick, xP_func, xP_not, xP_add, xP_sub, xP_mul, xP_lss, xP_leq, xP_gtr, xP_geq, xP_max2, xP_min2, xR_eql, xR_neq, Nat.zero_add, Nat.add_zero, Nat.reduceAdd, List.getD_cons_zero, List.getD_cons_succ, xIf_true, xIf_false, FA_35_0, FA_35_1, FA_66_0, FA_66_1, FA_66_2, FA_82_0, FA_82_1, FA_82_2, FA_86_0, FA_86_1, LEN_29, LEN_32, LEN_47, LEN_48, LEN_79, LEN_116]
          refine (ld1 ONE_3 (v := .int .i64 t) (hbp.cell (o := 0))).2 ?_
          refine (xP_IAarr AR8B SZ_4 ht).2 ?_
          rw [Nat.zero_add, Nat.mul_one]
          refine xE_store1 SZ_4 hbm4 (by rw [metB_len]; omega) rfl fun w5 hb5 hk5 hz5 => ?_
          rw [metB_set] at hb5
          have hpne : w3.heap.size ≠ mb := by omega
          have hbp5 := hbp.kept hk5 (by simp; omega)
          have hPS5 := hPS4.keptM hk5
          have hd5 := kept_drew [] w5
          have hPS6 := hPS5.kept0 hd5
          have hbp6 := hbp5.kept hd5 (by simp)
          have hb6 := hb5.kept hd5 (by simp)
          have hk06 : Kept [] w w5.drew := (hk04.then hk5 (fun g hg => by simp at hg; subst hg; exact .inr hfr)).then hd5 (by simp)
          have hz46 : w4.heap.size ≤ w5.drew.heap.size := by
            have h1 : w4.drew.heap.size = w4.heap.size := rfl
            have h2 : w5.drew.heap.size = w5.heap.size := rfl
            omega
          generalize hw6 : w5.drew = w6 at *
          clear hbm hbm4 hPS hPS4 hPS5 hb5 hbp hbp5 hk04 hd4 hd5 hk5 hz5
          have hz36 : w3.heap.size < w6.heap.size := by omega
          have hG0 : ∀ g ∈ G, g < w3.heap.size ∧ mb < g ∧ w.heap.size ≤ g := fun g hg => ⟨hblt g (List.mem_append_left _ hg), (hPS6.rd g (List.mem_append_left _ hg)).1, hPS6.o.fresh g hg⟩
          have hH0 : ∀ g ∈ H, g < w3.heap.size ∧ mb < g ∧ w.heap.size ≤ g := fun g hg => ⟨hHlt g hg, hPS6.hd g hg, by have := hPS6.hd g hg; omega⟩
          have hmG : mb ∉ G := fun hm => by have := (hG0 mb hm).2.1; omega
          have hpG : w3.heap.size ∉ G := fun hm => by have := (hG0 _ hm).1; omega
          have hqv1 : qv.oneCell' = true := SlT.oneP hq
          have hrx' : ∀ rb : Nat, (rs ++ [(⟨.slice (some ⟨rb, 0, none⟩) k k, [rb], crow k t⟩ : Rq)]).map Rq.x = (out ++ [(⟨(t : Nat), qv, d⟩ : Pt)]).map fun q => crow k q.at_.toNat := fun rb => by
            rw [List.map_append, List.map_append, hrx]
            rfl
          have hdx' : (wd ++ [(qv, d)]).map (·.2) = (out ++ [(⟨(t : Nat), qv, d⟩ : Pt)]).map Pt.d := by
            rw [List.map_append, List.map_append, hdx]
            rfl
          have hwd' : ∀ r ∈ wd ++ [(qv, d)], SlT w encB r.1 r.2 := fun r hr => by
            rcases List.mem_append.1 hr with hr | hr
            · exact hwd r hr
            · rw [List.mem_singleton] at hr
              subst hr
              exact hq
          have hfm' : ∀ j, j < 8 → (fm j || decide (t = j)) = hasAt (out ++ [(⟨(t : Nat), qv, d⟩ : Pt)]) (j : Nat) := fun j hj => by rw [hasAt_snoc (t := t) rfl, hfm j hj]
          have fin : ∀ {u x : Value} {wz : World} {rb : Nat} {G' H' : List Nat}, PS w wz mb u x (rs ++ [⟨.slice (some ⟨rb, 0, none⟩) k k, [rb], crow k t⟩]) G' (wd ++ [(qv, d)]) H' → Blk wz mb 49 (metB fun j => fm j || decide (t = j)) → Kept [] w wz →
              ∃ (rv dv : Value) (rs : List Rq) (G : List Nat) (wd : List (Value × List UInt8)) (H : List Nat) (fm : Nat → Bool), [u, x] = [rv, dv] ∧ True ∧ PS w wz mb rv dv rs G wd H ∧ (∀ r ∈ wd, SlT w encB r.1 r.2) ∧ rs.map Rq.x = (out ++ [(⟨(t : Nat), qv, d⟩ : Pt)]).map (fun q => crow k q.at_.toNat) ∧ wd.map (·.2) = (out ++ [(⟨(t : Nat), qv, d⟩ : Pt)]).map Pt.d ∧ Blk wz mb 49 (metB fm) ∧ (∀ j, j < 8 → fm j = hasAt (out ++ [(⟨(t : Nat), qv, d⟩ : Pt)]) (j : Nat)) ∧ Kept [] w wz :=
            fun hP hB hK => ⟨_, _, _, _, _, _, _, rfl, trivial, hP, hwd', hrx' _, hdx', hB, hfm', hK⟩
          have rowOk : ∀ {wz : World} {rb : Nat}, Own wz 5 1 (.slice (some ⟨rb, 0, none⟩) k k) k ((crow k t).flatMap encB) [rb] → Rq.Ok 5 wz ⟨.slice (some ⟨rb, 0, none⟩) k k, [rb], crow k t⟩ := fun h => by
            unfold Rq.Ok
            rw [crow_len]
            exact h
          have rowF : ∀ {rb : Nat}, w6.heap.size ≤ rb → ∀ g ∈ [rb], mb < g ∧ g ∉ Bl rs G ∧ g ∉ H := fun hrb g hg => by
            simp at hg
            subst hg
            exact ⟨by omega, fun hm => by have := hblt g hm; omega, fun hm => by have := hHlt g hm; omega⟩
          have two : ∀ {wx : World} {rb br bd : Nat} {cr cd : Nat}, PS w wx mb rv dv rs G wd H → Kept [] w6 wx → w6.heap.size ≤ rb → w6.heap.size ≤ bd → Own wx 5 1 (.slice (some ⟨rb, 0, none⟩) k k) k ((crow k t).flatMap encB) [rb] → At wx br 0 [.slice (some ⟨rb, 0, none⟩) k k] → At wx bd 0 [qv] →
              xE Tryd.prog (sB .append #[29, 29] #[rv, .slice (some ⟨br, 0, none⟩) 1 cr]) wx fun v71 wy => xE Tryd.prog (sB .append #[29, 29] #[dv, .slice (some ⟨bd, 0, none⟩) 1 cd]) wy fun v76 wz =>
              ∃ (rv dv : Value) (rs : List Rq) (G : List Nat) (wd : List (Value × List UInt8)) (H : List Nat) (fm : Nat → Bool), [v71, v76] = [rv, dv] ∧ True ∧ PS w wz mb rv dv rs G wd H ∧ (∀ r ∈ wd, SlT w encB r.1 r.2) ∧ rs.map Rq.x = (out ++ [(⟨(t : Nat), qv, d⟩ : Pt)]).map (fun q => crow k q.at_.toNat) ∧ wd.map (·.2) = (out ++ [(⟨(t : Nat), qv, d⟩ : Pt)]).map Pt.d ∧ Blk wz mb 49 (metB fm) ∧ (∀ j, j < 8 → fm j = hasAt (out ++ [(⟨(t : Nat), qv, d⟩ : Pt)]) (j : Nat)) ∧ Kept [] w wz := by
            intro wx rb br bd cr cd hP hkx hrb hbd hown hatr hatd
            have hmx := hb6.kept hkx (by simp)
            refine hP.app1 (rowOk hown) (rowF hrb) hatr (by omega) fun u wy G' hP1 hky => ?_
            have hbdG : bd ∉ G := fun hm => by have := (hG0 bd hm).1; omega
            refine hP1.app2 (d := d) hqv1 (hatd.kept hky hbdG) (by omega) fun x wz H' hP2 hkz => ?_
            exact fin hP2 ((hmx.kept hky hmG).kept hkz (fun hm => by have := (hH0 mb hm).2.1; omega)) (((hk06.then hkx (by simp)).then hky (fun g hg => .inr (hG0 g hg).2.2)).then hkz (fun g hg => .inr (hH0 g hg).2.2))
          have still : ∀ {wz : World} {B : Prop}, Kept [] w6 wz → B → xStill Tryd.prog (sLoad 32 (.pointer (some ⟨w3.heap.size, 1, none⟩))) qv wz B := fun hk hB => (still1 ONE_32 ((hbp6.kept hk (by simp)).cell (o := 1))).2 hB
          refine (ld1 ONE_3 (v := .int .i64 t) (hbp6.cell (o := 0))).2 ?_
          refine (ld1 ONE_32 (v := qv) (hbp6.cell (o := 1))).2 ?_
          refine ⟨?_, ?_⟩
          · refine xE_call CF_37 (row_ok hk1 hkn hn8 htn) ?_
            rintro _ w7 ⟨rfl, hrow, hk7⟩
            have hz7 := hk7.size
            refine still hk7 ?_
            refine ⟨?_, ?_⟩
            · refine xE_one EL_29 rfl fun w8 hat8 hk8 hz8 => ?_
              have hk68 := hk7.then hk8 (by simp)
              refine still hk68 ?_
              refine ⟨?_, ?_⟩
              · refine ((hPS6.kept0 hk68).app1 (rowOk (hrow.kept hk8 (by simp))) (rowF (Nat.le_refl _)) hat8 (by omega) fun u w9 G' hP9 hk9 => ?_)
                refine (still1 ONE_32 (((hbp6.kept hk68 (by simp)).kept hk9 hpG).cell (o := 1))).2 ?_
                refine xE_one EL_29 hqv1 fun w10 hat10 hk10 hz10 => ?_
                refine (hP9.kept0 hk10).app2 (d := d) hqv1 hat10 (by omega) fun x w11 H' hP11 hk11 => ?_
                exact fin hP11 ((((hb6.kept hk68 (by simp)).kept hk9 hmG).kept hk10 (by simp)).kept hk11 (fun hm => by have := (hH0 mb hm).2.1; omega)) ((((hk06.then hk68 (by simp)).then hk9 (fun g hg => .inr (hG0 g hg).2.2)).then hk10 (by simp)).then hk11 (fun g hg => .inr (hH0 g hg).2.2))
              · refine xE_one EL_29 hqv1 fun w9 hat9 hk9 hz9 => ?_
                exact two ((hPS6.kept0 hk68).kept0 hk9) (hk68.then hk9 (by simp)) (Nat.le_refl _) (by omega) ((hrow.kept hk8 (by simp)).kept hk9 (by simp)) (hat8.kept hk9 (by simp)) hat9
            · refine xE_one EL_29 hqv1 fun w8 hat8 hk8 hz8 => ?_
              refine xE_one EL_29 rfl fun w9 hat9 hk9 hz9 => ?_
              have hk69 := (hk7.then hk8 (by simp)).then hk9 (by simp)
              exact two (hPS6.kept0 hk69) hk69 (Nat.le_refl _) hz7 ((hrow.kept hk8 (by simp)).kept hk9 (by simp)) hat9 (hat8.kept hk9 (by simp))
          · refine xE_one EL_29 hqv1 fun w7 hat7 hk7 hz7 => ?_
            refine (still1 ONE_3 (v := .int .i64 t) ((hbp6.kept hk7 (by simp)).cell (o := 0))).2 ?_
            refine xE_call CF_37 (row_ok hk1 hkn hn8 htn) ?_
            rintro _ w8 ⟨rfl, hrow, hk8⟩
            refine xE_one EL_29 rfl fun w9 hat9 hk9 hz9 => ?_
            have hk69 := (hk7.then hk8 (by simp)).then hk9 (by simp)
            exact two (hPS6.kept0 hk69) hk69 (by omega) (Nat.le_refl _) (hrow.kept hk9 (by simp)) hat9 ((hat7.kept hk8 (by simp)).kept hk9 (by simp))
        · have hsk : hasAt out (t : Nat) = true ∨ out.length = k := Classical.not_not.1 hskip
          have hpk : pick k out ⟨(t : Nat), qv, d⟩ = out := if_pos hsk
          rw [hpk]
          exact ⟨rv, dv, rs, G, wd, H, fm, rfl, by trivial, hPS4, hwd, hrx, hdx, hbm4, hfm, hk04⟩
    rintro _ _ w4 ⟨rv', dv', rs', G', wd', H', fm', rfl, hbt, hPS', hwd', hrx', hdx', hbm', hfm', hk4⟩
    simp only [List.getD_cons_zero, List.getD_cons_succ]
    rw [wrap64 (by omega) (by omega)]
    refine ⟨⟨i + 1, rv', dv', rs', G', wd', H', fm', rfl, by omega, fun j hj hji => ?_, hPS', hwd', hrx', hdx', hbm', hfm', hk4⟩, by omega⟩
    by_cases hji2 : j = i
    · subst hji2; exact hbt
    · exact hbad j hj (by omega)
  · obtain rfl : i = l.length := by omega
    rw [List.take_length] at hrx hdx hrl hdl hcl
    have hend : l.findIdx (badPt n l) = l.length := List.findIdx_eq_length_of_false fun q hq => by
      obtain ⟨j, hj, rfl⟩ := List.getElem_of_mem hq
      exact hbad j hj hj
    have hgood : ∀ q ∈ l, 0 ≤ q.at_ ∧ q.at_ < n ∧ q.d.length = s0 l := fun q hq => by
      have := find_end hend q hq
      unfold badPt at this
      simp only [decide_eq_false_iff_not, not_or] at this
      omega
    refine (lenOwn hPS.o.own).2 ?_
    rw [hrl]
    simp only [xP_nil, xP_pick, xP_func, xP_not, xP_add, xP_sub, xP_mul, xP_lss, xP_leq, xP_gtr, xP_geq, xP_max2, xP_min2, xR_eql, xR_neq, Nat.zero_add, Nat.add_zero, Nat.reduceAdd, List.getD_cons_zero, List.getD_cons_succ, xIf_true, xIf_false, FA_35_0, FA_35_1, FA_66_0, FA_66_1, FA_66_2, FA_82_0, FA_82_1, FA_82_2, FA_86_0, FA_86_1, LEN_29, LEN_32, LEN_47, LEN_48, LEN_79, LEN_116, xIf_dec]
    refine ⟨fun hfew => ⟨.inr (.inl ⟨hend, by omega, rfl⟩), hk3⟩, fun hmany => ?_⟩
    have hck : (chosenP k l).length = k := by omega
    have hrows := hPS.o.rows
    have hDr := OwnW.rows hPS.d (fun r hr => (hwd r hr).kept0 hk3)
    rw [hrx] at hrows
    rw [hdx] at hDr
    have hMl : ((chosenP k l).map fun q => crow k q.at_.toNat).length = k := by rw [List.length_map, hck]
    have hMg : ∀ t, t < k → ((chosenP k l).map fun q => crow k q.at_.toNat).getD t [] = (ptR k (chosenP k l) t).1 := fun t ht => by
      rw [getD_lt (by omega), List.getElem_map]
      unfold ptR
      rw [getD_lt (by omega)]
    have hDg : ∀ t, t < k → ((chosenP k l).map Pt.d).getD t [] = (ptR k (chosenP k l) t).2 := fun t ht => by
      rw [getD_lt (by rw [List.length_map]; omega), List.getElem_map]
      unfold ptR
      rw [getD_lt (by omega)]
    have hDl : ((chosenP k l).map Pt.d).length = k := by rw [List.length_map, hck]
    have hDs : ∀ b ∈ (chosenP k l).map Pt.d, b.length = s0 l := fun b hb => by
      obtain ⟨q, hq, rfl⟩ := List.mem_map.1 hb
      exact (hgood q (chosen_mem hq)).2.2
    have hMs : ∀ r ∈ (chosenP k l).map fun q => crow k q.at_.toNat, r.length = k := fun r hr => by
      obtain ⟨q, _, rfl⟩ := List.mem_map.1 hr
      exact crow_len _ _
    have hker := ker_pts (k := k) (n := n) (l := chosenP k l) (fun q hq => by have := hgood q (chosen_mem hq); omega) (by omega) (by omega) hck (chosen_nd k l)
    generalize hMe : ((chosenP k l).map fun q => crow k q.at_.toNat) = M at *
    generalize hDe : (chosenP k l).map Pt.d = D at *
    have hkerM : Ker k (invR k M) := fun u hu => hker u fun t ht => by
      have := hu t ht
      unfold invR at this
      simp only at this
      rwa [hMg t ht] at this
    refine xE_call CF_38 (invert_ok hrows hMl hk1 (by omega) hMs hkerM) ?_
    rintro iv w4 ⟨X, hXl, hXs, hXr, hXsol, hk4⟩
    have hk04 := hk3.then hk4 (by simp)
    have hDr4 := hDr.kept0 hk4
    refine (rowsLen hXr).2 ?_
    rw [hXl]
    generalize hse : s0 l = s at *
    refine xLoop_of (fun ls w' => ∃ (a : Nat) (o : Value) (rs : List Rq) (G : List Nat), ls = [o, .int .i64 a] ∧ a ≤ k ∧ Out 32 5 w4 w' o rs G ∧ rs.map Rq.x = (List.range a).map (fun j => mixP (X.getD j []) D s) ∧ Kept [] w4 w') (fun ls _ => match ls with | [_, .int _ i] => k - i.toNat | _ => 0) ⟨0, _, [], [], rfl, by omega, out_nil _ _, rfl, Kept.refl _ _⟩ ?_
    rintro _ _ w5 ⟨a, o, rs5, G5, rfl, ha, ho5, hrx5, hk5⟩
    have hrl5 : rs5.length = a := by have := congrArg List.length hrx5; rwa [List.length_map, List.length_map, List.length_range] at this
    simp only [xP_nil, xP_pick, xP_func, xP_not, xP_add, xP_sub, xP_mul, xP_lss, xP_leq, xP_gtr, xP_geq, xP_max2, xP_min2, xR_eql, xR_neq, Nat.zero_add, Nat.add_zero, Nat.reduceAdd, List.getD_cons_zero, List.getD_cons_succ, xIf_true, xIf_false, FA_35_0, FA_35_1, FA_66_0, FA_66_1, FA_66_2, FA_82_0, FA_82_1, FA_82_2, FA_86_0, FA_86_1, LEN_29, LEN_32, LEN_47, LEN_48, LEN_79, LEN_116, xIf_dec]
    refine ⟨fun hlt => ?_, fun hge => ?_⟩
    · have hak : a < k := by omega
      have hxal : (X.getD a []).length = k := by rw [getD_lt (by omega)]; exact hXs _ (List.getElem_mem _)
      refine hXr.get rowW hk5 (by omega) fun xv hxv => ?_
      refine hDr4.get (i := 0) rowW hk5 (by omega) fun y hy => ?_
      have hy0 : (D.getD 0 []).length = s := by rw [getD_lt (by omega)]; exact hDs _ (List.getElem_mem _)
      obtain ⟨ya, yc, rfl, _, _⟩ := hy
      refine (xP_len SL_32).2 ?_
      rw [hy0]
      refine makeB hsz fun w6 hp6 hk6 hz6 => ?_
      have hz5 := hk5.size
      have hGlt := ho5.own.lt
      have hrlt : ∀ r ∈ rs5, ∀ g ∈ r.F, g < w5.heap.size := fun r hr => (ho5.ok r hr).lt
      have ho6 := ho5.kept0 hk6
      have hk46 := hk5.then hk6 (by simp)
      generalize hgp : w5.heap.size = gp at *
      refine mixLoops (r := X.getD a []) (B := D) (s := s) (g := gp) (fun w' hk => hxv.kept0 (hk46.then hk (fun g hg => by simp at hg; subst hg; exact .inr hz5))) (fun w' hk => hDr4.kept0 (hk46.then hk (fun g hg => by simp at hg; subst hg; exact .inr hz5))) (by omega) (by omega) hDs hsz hp6 fun w7 hp7 hk7 => ?_
      have ho7 := ho6.kept hk7 (fun x hx hm => by simp at hm; have := hGlt x hx; omega) (fun r hr x hx hm => by simp at hm; have := hrlt r hr x hx; omega)
      rw [hxal, ← hDl, mixU_all] at hp7
      have hk47 := hk46.then hk7 (fun g hg => by simp at hg; subst hg; exact .inr hz5)
      have hz7 := hk7.size
      refine xE_one EL_29 rfl fun w8 hat hk8 hz8 => ?_
      have hml : (mixP (X.getD a []) D s).length = s := mixP_len _ _ _
      have hrok : Rq.Ok 5 w8 ⟨.slice (some ⟨gp, 0, none⟩) s s, [gp], mixP (X.getD a []) D s⟩ := by
        have := hp7.kept hk8 (by simp)
        unfold Rq.Ok
        rw [hml]
        exact this
      refine (ho7.kept0 hk8).app (r := ⟨.slice (some ⟨gp, 0, none⟩) s s, [gp], mixP (X.getD a []) D s⟩) EL_29 hrok (fun x hx => ?_) hat (by omega) (by omega) (by omega) fun u w9 G' ho9 hk9 hG' => ?_
      · simp at hx
        subst hx
        exact ⟨by omega, fun hm => by have := hGlt x hm; omega, fun q hq hm => by have := hrlt q hq x hm; omega⟩
      · try simp only [xP_nil, xP_pick, xP_func, xP_not, xP_add, xP_sub, xP_mul, xP_lss, xP_leq, xP_gtr, xP_geq, xP_max2, xP_min2, xR_eql, xR_neq, Nat.zero_add, Nat.add_zero, Nat.reduceAdd, List.getD_cons_zero, List.getD_cons_succ, xIf_true, xIf_false, FA_35_0, FA_35_1, FA_66_0, FA_66_1, FA_66_2, FA_82_0, FA_82_1, FA_82_2, FA_86_0, FA_86_1, LEN_29, LEN_32, LEN_47, LEN_48, LEN_79, LEN_116]
        rw [wrap64 (by omega) (by omega)]
        refine ⟨⟨a + 1, u, rs5 ++ [_], G', rfl, by omega, ho9, ?_, (hk47.then hk8 (by simp)).then hk9 (fun x hx => .inr (ho5.fresh x hx))⟩, by omega⟩
        rw [List.map_append, hrx5, List.range_succ, List.map_append]
        rfl
    · obtain rfl : k = a := by omega
      subst hse
      have hYr := ho5.rows
      rw [hrx5] at hYr
      refine ⟨.inr (.inr ⟨hend, hck, o, _, rfl, by simp, fun b hb => ?_, hYr, fun t ht y hy => ?_⟩), hk04.then hk5 (by simp)⟩
      · obtain ⟨j, _, rfl⟩ := List.mem_map.1 hb
        exact mixP_len _ _ _
      · rw [← hDg t ht, ← hMg t ht, inv_sol hDl hXsol ht hy]
        refine lin_congr fun j hj => ?_
        show _ = (((List.range k).map fun j => mixP (X.getD j []) D (s0 l)).getD j []).getD y 0
        rw [getD_lt (l := (List.range k).map fun j => mixP (X.getD j []) D (s0 l)) (by simpa using hj), List.getElem_map, List.getElem_range]
end Go.Proofs.YtoanmeohlpdjfaaDoor
