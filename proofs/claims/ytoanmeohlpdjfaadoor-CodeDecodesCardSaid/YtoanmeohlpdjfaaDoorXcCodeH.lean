import Derived.Test.YtoanmeohlpdjfaaDoorXcCodeG
import Derived.Test.YtoanmeohlpdjfaaDoorXJoin
namespace Go.Proofs.YtoanmeohlpdjfaaDoor
set_option linter.unusedSimpArgs false
set_option linter.unusedVariables false
set_option maxRecDepth 100000
attribute [local irreducible] Go.X.xE
open Go Go.X Go.RowKit

/-! ## CodeBack -/
theorem rowI8 : RowB Tryd.prog 47 3 1 encI (fun k : Int => Value.int .i64 k) := RowB.one SL_47 SZ_3 ONE_3
theorem fold_all {k : Nat} : ∀ (l out : List Pt), ((out ++ l).map Pt.at_).Nodup → out.length + l.length ≤ k → l.foldl (pick k) out = out ++ l
  | [], out, _, _ => by simp
  | q :: l, out, h, hk => by
    have e : pick k out q = out ++ [q] := by
      unfold pick
      rw [if_neg]
      rw [not_or]
      refine ⟨fun hh => ?_, by simp at hk; omega⟩
      rw [List.map_append] at h
      have h3 := (List.nodup_append.1 h).2.2
      have : hasAt out q.at_ = false := hasAt_false.2 fun r hr e => h3 _ (List.mem_map_of_mem hr) _ (List.mem_map_of_mem (List.mem_cons_self)) e
      rw [this] at hh
      cases hh
    rw [List.foldl_cons, e, fold_all l (out ++ [q]) (by rwa [List.append_assoc]) (by simp at hk ⊢; omega), List.append_assoc]
    rfl
theorem chosen_all {k : Nat} {l : List Pt} (h : (l.map Pt.at_).Nodup) (hk : l.length ≤ k) : chosenP k l = l := fold_all l [] h (by simpa using hk)
theorem move_perm {lf ps : List Pt} {x : Nat} (hx : x < lf.length) : (ps ++ lf).Perm ((ps ++ [lf[x]]) ++ (lf.take x ++ lf.drop (x + 1))) := by
  rw [List.append_assoc]
  refine List.Perm.append_left ps ?_
  have e : lf.take x ++ lf[x] :: lf.drop (x + 1) = lf := by rw [← List.drop_eq_getElem_cons hx, List.take_append_drop]
  have := List.perm_middle (a := lf[x]) (l₁ := lf.take x) (l₂ := lf.drop (x + 1))
  rw [e] at this
  exact this
theorem s0_all {l : List Pt} {s : Nat} (h : ∀ q ∈ l, q.d.length = s) (hl : 1 ≤ l.length) : s0 l = s := by
  unfold s0
  rw [getD_lt hl]
  exact h _ (List.getElem_mem _)
theorem s0_le {l : List Pt} {s : Nat} (h : ∀ q ∈ l, q.d.length = s) (hs : s ≤ 1000000) : s0 l ≤ 1000000 := by
  cases l with
  | nil => exact Nat.zero_le _
  | cons q l => rw [s0_all h (by simp)]; exact hs
/-- A fragment, right as it was made. -/
def FragOk (w : World) (F : List (List UInt8)) (n : Nat) (q : Pt) : Prop := ∃ i : Nat, i < n ∧ q.at_ = i ∧ q.d = F.getD i [] ∧ SlT w encB q.v q.d
theorem frag_good {w : World} {F : List (List UInt8)} {n s : Nat} {l : List Pt} (hF : ∀ i, i < n → (F.getD i []).length = s) (h : ∀ q ∈ l, FragOk w F n q) : l.findIdx (badPt n l) = l.length := List.findIdx_eq_length_of_false fun q hq => by
  obtain ⟨i, h1, h2, h3, _⟩ := h q hq
  refine goodPt (by omega) (by omega) ?_
  rw [s0_all (s := s) (fun r hr => by obtain ⟨j, j1, _, j3, _⟩ := h r hr; rw [j3, hF j j1]) (List.length_pos_of_mem hq), h3, hF i h1]
theorem cback_ok {k n size : Int} {b : List UInt8} {ord : List Int} {vb vo : Value} {w : World} (hg : Glob w) (hb : SlT w encB vb b) (hord : SlT w encI vo ord) :
    Gives Tryd.prog 9 #[.int .i64 k, .int .i64 n, .int .i64 size, vb, vo] w fun u w' => u = .bool true ∧ Kept [] w w' := by
  refine C_stavelaw4_CodeBack ?_
  unfold S_stavelaw4_CodeBack
  have hord0 := hord
  obtain ⟨oa, oc, rfl, _, _⟩ := hord
  refine withinN (by omega) (by omega) (by omega) fun kk hk1 hk8 => ?_
  refine withinN (by omega) (by omega) (by omega) fun nn hn1 hn8 => ?_
  refine newS (by omega) (by omega) (by omega) fun p f cv w1 hC hkc => ?_
  simp only [xP_ex0, xP_ex1]
  refine madeT fun _ => ?_
  simp only [List.getD_cons_zero, xIf_false]
  refine withinN (by omega) (by omega) (by omega) fun s hs1 hs12 => ?_
  refine madeS (hb.kept0 hkc) (by omega) (by omega) fun bv rs G w2 ho2 hr2 hk2 => ?_
  have hBl := madeP_len kk s b
  have hBr := @madeP_rows kk s b
  generalize madeP kk s b = B at *
  have hR2 : RowsT w2 bv B := by rw [← hr2]; exact ho2.rows
  have hC2 := hC.kept0 hk2
  have hk02 := hkc.then hk2 (by simp)
  refine encG hC2 hR2 hBl hBr (by omega) fun lv w3 hL3 hk3 => ?_
  simp only [xP_ex0, xP_ex1]
  have hC3 := hC2.kept0 hk3
  have hR3 := hR2.kept0 hk3
  have hk03 := hk02.then hk3 (by simp)
  refine xJoin_of (fun ls w' => ls = [.bool false] ∧ w3 = w') ?_ ?_
  · refine (xR_neqN IFE).2 ?_
    simp only [xIf_false]
    refine (rowsLen hL3).2 ?_
    rw [encP_len]
    simp only [xP_nil, xP_pick, xP_func, xP_not, xP_add, xP_sub, xP_mul, xP_lss, xP_leq, xP_gtr, xP_geq, xP_max2, xP_min2, xR_eql, xR_neq, Nat.zero_add, Nat.add_zero, Nat.reduceAdd, List.getD_cons_zero, List.getD_cons_succ, xIf_true, xIf_false, FA_35_0, FA_35_1, FA_66_0, FA_66_1, FA_66_2, FA_82_0, FA_82_1, FA_82_2, FA_86_0, FA_86_1, LEN_29, LEN_32, LEN_47, LEN_48, LEN_79, LEN_116, ne_eq, not_true_eq_false, decide_false]
    exact ⟨by trivial, by trivial⟩
  rintro _ _ _ ⟨rfl, rfl⟩
  simp only [List.getD_cons_zero, xIf_false]
  refine (rowsLen hL3).2 ?_
  rw [encP_len]
  have hrl : ∀ i, i < nn → ((encP kk nn B s).getD i []).length = s := fun i hi => by rw [encP_get hi, mixP_len]
  have hFl := encP_len kk nn B s
  have hFg : ∀ i, i < nn → (encP kk nn B s).getD i [] = mixP (crow kk i) B s := fun i hi => encP_get hi
  generalize encP kk nn B s = F at *
  refine xLoop_of (fun ls w' => ∃ (m : Nat) (o : Value) (lf : List Pt) (Gl : List Nat), ls = [o, .int .i64 m] ∧ m ≤ nn ∧ lf.length = m ∧ OwnP w' o lf Gl ∧ (∀ g ∈ Gl, w3.heap.size ≤ g) ∧ (∀ j, (hj : j < lf.length) → lf[j].at_ = (j : Nat) ∧ lf[j].d = F.getD j [] ∧ SlT w3 encB lf[j].v lf[j].d) ∧ Kept [] w3 w')
    (fun ls _ => match ls with | [_, .int _ i] => nn - i.toNat | _ => 0) ⟨0, _, [], [], rfl, by omega, rfl, own_nil _ _ _, by simp, fun j hj => absurd hj (by simp), Kept.refl _ _⟩ ?_
  rintro _ _ w4 ⟨m, o, lf, Gl, rfl, hm9, hml, ho4, hGl, hlf, hk4⟩
  simp only [xP_nil, xP_pick, xP_func, xP_not, xP_add, xP_sub, xP_mul, xP_lss, xP_leq, xP_gtr, xP_geq, xP_max2, xP_min2, xR_eql, xR_neq, Nat.zero_add, Nat.add_zero, Nat.reduceAdd, List.getD_cons_zero, List.getD_cons_succ, xIf_true, xIf_false, FA_35_0, FA_35_1, FA_66_0, FA_66_1, FA_66_2, FA_82_0, FA_82_1, FA_82_2, FA_86_0, FA_86_1, LEN_29, LEN_32, LEN_47, LEN_48, LEN_79, LEN_116, xIf_dec]
  refine ⟨fun hlt => ?_, fun hge => ?_⟩
  · refine hL3.get rowW hk4 (by omega) fun u hu => ?_
    refine (bldPt (hu.kept0 hk4)).2 ?_
    refine appPt (q := ⟨m, u, F.getD m []⟩) ho4 (hu.kept0 hk4) (by omega) fun o' w5 G' ho5 _ hk5 hG' => ?_
    try simp only [xP_nil, xP_pick, xP_func, xP_not, xP_add, xP_sub, xP_mul, xP_lss, xP_leq, xP_gtr, xP_geq, xP_max2, xP_min2, xR_eql, xR_neq, Nat.zero_add, Nat.add_zero, Nat.reduceAdd, List.getD_cons_zero, List.getD_cons_succ, xIf_true, xIf_false, FA_35_0, FA_35_1, FA_66_0, FA_66_1, FA_66_2, FA_82_0, FA_82_1, FA_82_2, FA_86_0, FA_86_1, LEN_29, LEN_32, LEN_47, LEN_48, LEN_79, LEN_116]
    rw [wrap64 (by omega) (by omega)]
    have hz4 := hk4.size
    refine ⟨⟨m + 1, o', lf ++ [⟨m, u, F.getD m []⟩], G', rfl, by omega, by simp [hml], ho5, fun g hg => (hG' g hg).elim (hGl g) (fun h => by omega), fun j hj => ?_, hk4.then hk5 (fun g hg => .inr (hGl g hg))⟩, by omega⟩
    by_cases hjm : j < lf.length
    · rw [List.getElem_append_left hjm]
      exact hlf j hjm
    · have hj' : j = lf.length := by rw [List.length_append] at hj; simp at hj; omega
      subst hj'
      rw [List.getElem_concat_length (by rfl)]
      subst hml
      exact ⟨rfl, rfl, hu⟩
  · obtain rfl : nn = m := by omega
    have hgood0 : ∀ q ∈ lf, FragOk w3 F nn q := fun q hq => by
      obtain ⟨j, hj, rfl⟩ := List.getElem_of_mem hq
      obtain ⟨a1, a2, a3⟩ := hlf j hj
      exact ⟨j, by omega, a1, a2, a3⟩
    have hnd0 : (lf.map Pt.at_).Nodup := List.pairwise_iff_getElem.2 fun i j hi hj hij => by
      rw [List.length_map] at hi hj
      rw [List.getElem_map, List.getElem_map, (hlf i hi).1, (hlf j hj).1]
      omega
    refine xLoop_of (fun ls w' => ∃ (ps lf : List Pt) (o lv : Value) (Gp Gl : List Nat), ls = [o, lv, .int .i64 ps.length] ∧ ps.length ≤ kk ∧ OwnP w' o ps Gp ∧ OwnP w' lv lf Gl ∧ (∀ g ∈ Gl, g ∉ Gp) ∧ (∀ g ∈ Gp, w3.heap.size ≤ g) ∧ (∀ g ∈ Gl, w3.heap.size ≤ g) ∧ (∀ q ∈ ps ++ lf, FragOk w3 F nn q) ∧ (ps ++ lf).length = nn ∧ ((ps ++ lf).map Pt.at_).Nodup ∧ Kept [] w3 w')
      (fun ls _ => match ls with | [_, _, .int _ i] => kk - i.toNat | _ => 0) ⟨[], lf, _, _, [], Gl, rfl, by simp, own_nil _ _ _, ho4, by simp, by simp, hGl, hgood0, by simpa using hml, hnd0, hk4⟩ ?_
    clear hgood0 hnd0 hlf hGl ho4 hml hk4
    rintro _ _ w5 ⟨ps, lf, o, lv2, Gp, Gl, rfl, hpk, hop, hol, hdj, hGp, hGl, hfr, hlen, hnd, hk5⟩
    have hk05 := hk03.then hk5 (by simp)
    simp only [List.getD_cons_zero, List.getD_cons_succ]
    refine (partsLen (ownP_sl hop)).2 ?_
    simp only [xP_nil, xP_pick, xP_func, xP_not, xP_add, xP_sub, xP_mul, xP_lss, xP_leq, xP_gtr, xP_geq, xP_max2, xP_min2, xR_eql, xR_neq, Nat.zero_add, Nat.add_zero, Nat.reduceAdd, List.getD_cons_zero, List.getD_cons_succ, xIf_true, xIf_false, FA_35_0, FA_35_1, FA_66_0, FA_66_1, FA_66_2, FA_82_0, FA_82_1, FA_82_2, FA_86_0, FA_86_1, LEN_29, LEN_32, LEN_47, LEN_48, LEN_79, LEN_116, xIf_dec]
    refine ⟨fun hlt => ?_, fun hge => ?_⟩
    · have hll : 1 ≤ lf.length := by rw [List.length_append] at hlen; omega
      have hll8 : lf.length ≤ 8 := by rw [List.length_append] at hlen; omega
      refine xJoin_of (fun ls w' => ∃ x : Nat, ls = [.int .i64 x] ∧ x < lf.length ∧ w5 = w') ?_ ?_
      · simp only [xIf_dec]
        refine ⟨fun hio => ?_, fun _ => ⟨0, rfl, by omega, by trivial⟩⟩
        refine (rowI8.get hord0 hk05 (by omega)).2 ?_
        refine (partsLen (ownP_sl hol)).2 ?_
        simp only [xP_nil, xP_pick, xP_func, xP_not, xP_add, xP_sub, xP_mul, xP_lss, xP_leq, xP_gtr, xP_geq, xP_max2, xP_min2, xR_eql, xR_neq, Nat.zero_add, Nat.add_zero, Nat.reduceAdd, List.getD_cons_zero, List.getD_cons_succ, xIf_true, xIf_false, FA_35_0, FA_35_1, FA_66_0, FA_66_1, FA_66_2, FA_82_0, FA_82_1, FA_82_2, FA_86_0, FA_86_1, LEN_29, LEN_32, LEN_47, LEN_48, LEN_79, LEN_116]
        rw [wrap64 (by omega) (by omega)]
        exact withinN (by omega) (by omega) (by omega) fun x _ hx => ⟨x, rfl, by omega, rfl⟩
      rintro _ _ _ ⟨x, rfl, hx, rfl⟩
      simp only [List.getD_cons_zero]
      refine (rowPt.get (ownP_sl hol) (Kept.refl _ _) hx).2 ?_
      obtain ⟨qi, q1, q2, q3, q4⟩ := hfr lf[x] (List.mem_append_right _ (List.getElem_mem hx))
      refine appPt (q := lf[x]) hop (q4.kept0 hk5) (by omega) fun o' w6 Gp' hop6 _ hk6 hGp' => ?_
      have hk36 := hk5.then hk6 (fun g hg => .inr (hGp g hg))
      have hol6 : OwnP w6 lv2 lf Gl := hol.kept hk6 hdj
      have hd6 : Kept [] w3 w6.drew := hk36.then (kept_drew [] w6) (by simp)
      have hslD := (ownP_sl hol6).kept0 (kept_drew [] w6)
      clear hol
      have hsl6 := ownP_sl hol6
      obtain ⟨la, lc, rfl, hlc, _⟩ := hsl6
      refine (xP_upto SL_48 SZ_35 (by omega) (by omega)).2 ?_
      simp only [xP_nil, xP_pick, xP_func, xP_not, xP_add, xP_sub, xP_mul, xP_lss, xP_leq, xP_gtr, xP_geq, xP_max2, xP_min2, xR_eql, xR_neq, Nat.zero_add, Nat.add_zero, Nat.reduceAdd, List.getD_cons_zero, List.getD_cons_succ, xIf_true, xIf_false, FA_35_0, FA_35_1, FA_66_0, FA_66_1, FA_66_2, FA_82_0, FA_82_1, FA_82_2, FA_86_0, FA_86_1, LEN_29, LEN_32, LEN_47, LEN_48, LEN_79, LEN_116]
      rw [wrap64 (by omega) (by omega), show ((x : Int) + 1) = ((x + 1 : Nat) : Int) by omega]
      refine (xP_from SL_48 SZ_35 (by omega) (by omega)).2 ?_
      have hu1 := SlT.upto (j := x) encPt_len hslD (by omega)
      have hu2 := SlT.sub (i := x + 1) (j := lf.length) encPt_len hslD (by omega) (Nat.le_refl _)
      rw [List.take_of_length_le (by rw [List.length_drop]; omega)] at hu2
      have hone : ∀ q ∈ lf, ∀ u ∈ encPt q, u.oneCell' = true := fun q hq => by
        obtain ⟨_, _, _, _, h4⟩ := hfr q (List.mem_append_right _ hq)
        exact encPt_one h4
      refine xE_join0 (l := lf.take x) (l' := lf.drop (x + 1)) EL_48 encPt_len (fun q hq => hone q (List.mem_of_mem_take hq)) (fun q hq => hone q (List.mem_of_mem_drop hq)) hu1 hu2 (by omega) (by rw [List.length_take, List.length_drop]; omega) fun lv' w7 Gl' hol7 hGl' hk7 => ?_
      have hz6 : w6.drew.heap.size = w6.heap.size := rfl
      have hz3 := hk36.size
      have hk37 := hd6.then hk7 (by simp)
      have hop7 : OwnP w7 o' (ps ++ [lf[x]]) Gp' := (hop6.kept (kept_drew [] w6) (by simp)).kept hk7 (by simp)
      have hperm := move_perm (ps := ps) hx
      rw [wrap64 (by omega) (by omega)]
      have hpl : (ps ++ [lf[x]]).length = ps.length + 1 := by simp
      refine ⟨⟨ps ++ [lf[x]], lf.take x ++ lf.drop (x + 1), o', lv', Gp', Gl', by rw [hpl]; rfl, by omega, hop7, hol7, fun g hg hm => ?_, fun g hg => (hGp' g hg).elim (hGp g) (fun h => by have := hk5.size; omega), fun g hg => by have := hGl' g hg; omega, fun q hq => hfr q (hperm.mem_iff.2 hq), by rw [← hperm.length_eq]; exact hlen, (hperm.map Pt.at_).nodup_iff.1 hnd, hk37⟩, by omega⟩
      have h1 := hGl' g hg
      have h2 := hop6.lt g hm
      omega
    · have hpkk : ps.length = kk := by omega
      have hfp : ∀ q ∈ ps, FragOk w3 F nn q := fun q hq => hfr q (List.mem_append_left _ hq)
      have hndp : (ps.map Pt.at_).Nodup := by rw [List.map_append] at hnd; exact (List.nodup_append.1 hnd).1
      have hds : ∀ q ∈ ps, q.d.length = s := fun q hq => by obtain ⟨i, h1, _, h3, _⟩ := hfp q hq; rw [h3, hrl i h1]
      have hs0 : s0 ps = s := s0_all hds (by omega)
      have hbad := frag_good hrl hfp
      have hch : chosenP kk ps = ps := chosen_all hndp (by omega)
      have hpok : PtsOk w3 ps := fun q hq => by obtain ⟨_, _, _, _, h4⟩ := hfp q hq; exact h4
      have henc : ∀ q ∈ chosenP kk ps, q.d = mixP (crow kk q.at_.toNat) B s := fun q hq => by
        rw [hch] at hq
        obtain ⟨i, h1, h2, h3, _⟩ := hfp q hq
        rw [h3, hFg i h1, h2]
        rfl
      have hC5 := hC3.kept0 hk5
      refine xE_call CF_15 (decode_ok hC5 (ownP_sl hop) (hpok.kept0 hk5) (by omega) (by omega)) ?_
      rintro _ w6 ⟨hdec, hk6⟩
      rcases hdec with ⟨h1, _⟩ | ⟨_, h1, _⟩ | ⟨_, hcl, y, X, rfl, hX1, hX2, hX3, hX4⟩
      · omega
      · rw [hch] at h1; omega
      simp only [xP_ex0, xP_ex1]
      rw [hs0] at hX2 hX4
      obtain rfl : B = X := (dec_back (by omega) hbad hcl (by omega) hX1 hX2 hBl hBr hX4 henc).symm
      have hk36 := hk5.then hk6 (by simp)
      have hk06 := hk03.then hk36 (by simp)
      refine xJoin_of (fun ls w' => ls = [.bool false] ∧ Kept [] w6 w') ?_ ?_
      · refine (xR_neqN IFE).2 ?_
        simp only [xIf_false]
        refine sameS hX3 (hR3.kept0 hk36) (by omega) (fun r hr => by rw [hBr r hr]; omega) fun w7 hk7 => ?_
        simp only [decide_true, xP_nil, xP_pick, xP_func, xP_not, xP_add, xP_sub, xP_mul, xP_lss, xP_leq, xP_gtr, xP_geq, xP_max2, xP_min2, xR_eql, xR_neq, Nat.zero_add, Nat.add_zero, Nat.reduceAdd, List.getD_cons_zero, List.getD_cons_succ, xIf_true, xIf_false, FA_35_0, FA_35_1, FA_66_0, FA_66_1, FA_66_2, FA_82_0, FA_82_1, FA_82_2, FA_86_0, FA_86_1, LEN_29, LEN_32, LEN_47, LEN_48, LEN_79, LEN_116, Bool.not_true]
        exact ⟨by trivial, hk7⟩
      rintro _ _ w7 ⟨rfl, hk7⟩
      simp only [List.getD_cons_zero, xIf_false]
      have hk37 := hk36.then hk7 (by simp)
      refine (rowsLen hL3).2 ?_
      rw [hFl]
      refine xLoop_of (fun ls w' => ∃ i : Nat, ls = [.int .i64 i] ∧ i ≤ nn ∧ Kept [] w3 w' ∧ Kept [] w5 w') (fun ls _ => match ls with | [.int _ i] => nn - i.toNat | _ => 0) ⟨0, rfl, by omega, hk37, hk6.then hk7 (by simp)⟩ ?_
      rintro _ _ w8 ⟨i, rfl, hi, hk38, hk58⟩
      simp only [xP_nil, xP_pick, xP_func, xP_not, xP_add, xP_sub, xP_mul, xP_lss, xP_leq, xP_gtr, xP_geq, xP_max2, xP_min2, xR_eql, xR_neq, Nat.zero_add, Nat.add_zero, Nat.reduceAdd, List.getD_cons_zero, List.getD_cons_succ, xIf_true, xIf_false, FA_35_0, FA_35_1, FA_66_0, FA_66_1, FA_66_2, FA_82_0, FA_82_1, FA_82_2, FA_86_0, FA_86_1, LEN_29, LEN_32, LEN_47, LEN_48, LEN_79, LEN_116, xIf_dec]
      have hop8 : OwnP w8 o ps Gp := hop.kept hk58 (by simp)
      refine ⟨fun hlt => ?_, fun hge => ?_⟩
      · have hin : i < nn := by omega
        refine xE_call CF_23 (rebuild_ok (hC3.kept0 hk38) hin (ownP_sl hop8) (hpok.kept0 hk38) (by omega) (by omega)) ?_
        rintro _ w9 ⟨hreb, hk9⟩
        rcases hreb with ⟨h1, _⟩ | ⟨_, h1, _⟩ | ⟨_, hcl, y, X, rfl, hX1, hX2, hX3, hX4⟩
        · omega
        · rw [hch] at h1; omega
        simp only [xP_ex0, xP_ex1]
        rw [hs0] at hX2 hX3 hX4
        obtain rfl : B = X := (dec_back (by omega) hbad hcl (by omega) hX1 hX2 hBl hBr hX4 henc).symm
        have hk39 := hk38.then hk9 (by simp)
        refine xJoin_of (fun ls w' => ls = [.bool false] ∧ Kept [] w9 w') ?_ ?_
        · refine (xR_neqN IFE).2 ?_
          simp only [xIf_false]
          refine hL3.get rowW hk39 (by omega) fun u hu => ?_
          refine xE_call CF_24 (sameB_ok hX3 (hu.kept0 hk39) (by rw [mixP_len]; omega)) ?_
          rintro _ wA ⟨rfl, hkA⟩
          rw [hFg i hin]
          simp only [decide_true, xP_nil, xP_pick, xP_func, xP_not, xP_add, xP_sub, xP_mul, xP_lss, xP_leq, xP_gtr, xP_geq, xP_max2, xP_min2, xR_eql, xR_neq, Nat.zero_add, Nat.add_zero, Nat.reduceAdd, List.getD_cons_zero, List.getD_cons_succ, xIf_true, xIf_false, FA_35_0, FA_35_1, FA_66_0, FA_66_1, FA_66_2, FA_82_0, FA_82_1, FA_82_2, FA_86_0, FA_86_1, LEN_29, LEN_32, LEN_47, LEN_48, LEN_79, LEN_116, Bool.not_true]
          exact ⟨by trivial, hkA⟩
        rintro _ _ wA ⟨rfl, hkA⟩
        simp only [List.getD_cons_zero, xIf_false, xP_nil, xP_pick, xP_func, xP_not, xP_add, xP_sub, xP_mul, xP_lss, xP_leq, xP_gtr, xP_geq, xP_max2, xP_min2, xR_eql, xR_neq, Nat.zero_add, Nat.add_zero, Nat.reduceAdd, List.getD_cons_zero, List.getD_cons_succ, xIf_true, xIf_false, FA_35_0, FA_35_1, FA_66_0, FA_66_1, FA_66_2, FA_82_0, FA_82_1, FA_82_2, FA_86_0, FA_86_1, LEN_29, LEN_32, LEN_47, LEN_48, LEN_79, LEN_116]
        rw [wrap64 (by omega) (by omega)]
        exact ⟨⟨i + 1, rfl, by omega, hk39.then hkA (by simp), (hk58.then hk9 (by simp)).then hkA (by simp)⟩, by omega⟩
      · have hsl8 := ownP_sl hop8
        have hsl8x := hsl8
        clear hop8 hop
        obtain ⟨pa, pc, rfl, hpc, _⟩ := hsl8x
        refine (xP_from (i := 1) SL_48 SZ_35 (by omega) (by omega)).2 ?_
        have hf1 := SlT.from1 encPt_len hsl8 (by omega)
        have hfd : ∀ q ∈ ps.drop 1, FragOk w3 F nn q := fun q hq => hfp q (List.mem_of_mem_drop hq)
        have hbd := frag_good hrl hfd
        have hdl : (ps.drop 1).length = kk - 1 := by rw [List.length_drop]; omega
        have hchd : chosenP kk (ps.drop 1) = ps.drop 1 := chosen_all (by rw [List.map_drop]; exact hndp.sublist (List.drop_sublist _ _)) (by omega)
        refine xE_call CF_15 (decode_ok (hC3.kept0 hk38) hf1 (fun q hq => (hpok q (List.mem_of_mem_drop hq)).kept0 hk38) (by omega) (s0_le (fun q hq => hds q (List.mem_of_mem_drop hq)) (by omega))) ?_
        rintro _ w9 ⟨hdec, hk9⟩
        rcases hdec with ⟨h1, _⟩ | ⟨_, _, rfl⟩ | ⟨_, h1, _⟩
        · omega
        rotate_left
        · rw [hchd] at h1; omega
        simp only [xP_ex0, xP_ex1]
        have hk09 := hk03.then (hk38.then hk9 (by simp)) (by simp)
        refine kindR trivial (hg.kept0 hk09) fun wA hkA => ?_
        simp only [Er.kind, xR_eql, decide_true, xIf_true]
        exact cRunsG hg (hk09.then hkA (by simp))
end Go.Proofs.YtoanmeohlpdjfaaDoor
