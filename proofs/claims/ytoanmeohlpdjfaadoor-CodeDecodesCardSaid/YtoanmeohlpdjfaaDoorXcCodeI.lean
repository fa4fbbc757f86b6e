import Derived.Test.YtoanmeohlpdjfaaDoorXcCodeH
namespace Go.Proofs.YtoanmeohlpdjfaaDoor
set_option linter.unusedSimpArgs false
set_option linter.unusedVariables false
set_option maxRecDepth 100000
attribute [local irreducible] Go.X.xE
open Go Go.X Go.RowKit

/-! ## CodeFirst -/
def metB (f : Nat → Bool) : List Value := (List.range 8).map fun j => .bool (f j)
theorem metB_len (f : Nat → Bool) : (metB f).length = 8 := by simp [metB]
theorem metB_get {f : Nat → Bool} {t : Nat} (h : t < 8) : (metB f)[t]? = some (.bool (f t)) := by
  unfold metB
  rw [List.getElem?_map, List.getElem?_range h]
  rfl
theorem metB_set {f : Nat → Bool} {t : Nat} : (metB f).set t (.bool true) = metB (fun j => f j || decide (t = j)) := by
  apply List.ext_getElem?
  intro j
  rw [List.getElem?_set, metB_len]
  by_cases hj : j < 8
  · rw [metB_get hj, metB_get hj]
    by_cases htj : t = j
    · subst htj
      rw [if_pos rfl, if_pos hj]
      simp
    · rw [if_neg htj, decide_eq_false htj, Bool.or_false]
  · have h1 : (metB f)[j]? = none := List.getElem?_eq_none (by rw [metB_len]; omega)
    have h2 : (metB fun j => f j || decide (t = j))[j]? = none := List.getElem?_eq_none (by rw [metB_len]; omega)
    rw [h1, h2]
    split
    · rename_i e; subst e; rw [if_neg (by omega)]
    · rfl
theorem AR8B : arrB Tryd.prog 49 4 8 := by unfold arrB; kernel_rfl
theorem chosen_snoc {k : Nat} {l : List Pt} {q : Pt} : chosenP k (l ++ [q]) = pick k (chosenP k l) q := by
  unfold chosenP
  rw [List.foldl_append]
  rfl
theorem hasAt_snoc {out : List Pt} {q : Pt} {t j : Nat} (h : q.at_ = t) : hasAt (out ++ [q]) (j : Nat) = (hasAt out (j : Nat) || decide (t = j)) := by
  unfold hasAt
  have e : decide ((t : Int) = (j : Nat)) = decide (t = j) := decide_eq_decide.2 (by omega)
  rw [List.any_append]
  simp [h, e]
theorem xTest3 {P : Program} {I : TypeId} {w : World} {n i : Nat} {M : Int} {b2 : List Value → Env → World → Prop}
    (k1 : i < n → (i : Int) < M → ∀ junk, b2 [.bool true] junk w) (k2 : ¬ (i < n ∧ (i : Int) < M) → ∀ junk, b2 [.bool false] junk w) :
    xJoin (fun J => xP P (sBin .lss I (.int .i64 i) (.int .i64 n)) fun u => xIf u (xP P (sBin .lss I (.int .i64 i) (.int .i64 M)) fun x => J [x] w) (J [.bool false] w)) b2 := by
  refine xJoin_one ?_
  simp only [xP_lss, xIf_dec]
  refine ⟨fun h1 => ?_, fun h1 => k2 (by omega)⟩
  by_cases h : (i : Int) < M
  · rw [decide_eq_true h]; exact k1 (by omega) h
  · rw [decide_eq_false h]; exact k2 (by omega)
theorem cfirst_ok {k n size : Int} {b : List UInt8} {ord : List Int} {junk : UInt8} {vb vo : Value} {w : World} (hg : Glob w) (hb : SlT w encB vb b) (hord : SlT w encI vo ord) :
    Gives Tryd.prog 7 #[.int .i64 k, .int .i64 n, .int .i64 size, vb, vo, .int .u8 junk.toNat] w fun u w' => u = .bool true ∧ Kept [] w w' := by
  refine C_stavelaw4_CodeFirst ?_
  unfold S_stavelaw4_CodeFirst
  have hord0 := hord
  obtain ⟨oa, oc, rfl, _, _⟩ := hord
  refine withinN (by omega) (by omega) (by omega) fun kk hk1 hk8 => ?_
  refine withinN (by omega) (by omega) (by omega) fun nn hn1 hn8 => ?_
  refine newS (by omega) (by omega) (by omega) fun p f cv w1 hC hkc => ?_
  simp only [xP_ex0, xP_ex1]
  refine madeT fun _ => ?_
  simp only [List.getD_cons_zero, xIf_false]
  refine withinN (by omega) (by omega) (by omega) fun s hs1 hs12 => ?_
  refine madeS (hb.kept0 hkc) (by omega) (by omega) fun bv rs G w2 ho2 hr2 hk2 => ?_
  have hBl := madeP_len kk s b
  have hBr := @madeP_rows kk s b
  generalize madeP kk s b = B at *
  have hR2 : RowsT w2 bv B := by rw [← hr2]; exact ho2.rows
  have hC2 := hC.kept0 hk2
  have hk02 := hkc.then hk2 (by simp)
  refine encG hC2 hR2 hBl hBr (by omega) fun lv w3 hL3 hk3 => ?_
  simp only [xP_ex0, xP_ex1]
  have hC3 := hC2.kept0 hk3
  have hR3 := hR2.kept0 hk3
  have hk03 := hk02.then hk3 (by simp)
  refine xJoin_of (fun ls w' => ls = [.bool false] ∧ w3 = w') ?_ ?_
  · refine (xR_neqN IFE).2 ?_
    simp only [xIf_false]
    refine (rowsLen hL3).2 ?_
    rw [encP_len]
    simp only [xP_nil, xP_pick, xP_func, xP_not, xP_add, xP_sub, xP_mul, xP_lss, xP_leq, xP_gtr, xP_geq, xP_max2, xP_min2, xR_eql, xR_neq, Nat.zero_add, Nat.add_zero, Nat.reduceAdd, List.getD_cons_zero, List.getD_cons_succ, xIf_true, xIf_false, FA_35_0, FA_35_1, FA_66_0, FA_66_1, FA_66_2, FA_82_0, FA_82_1, FA_82_2, FA_86_0, FA_86_1, LEN_29, LEN_32, LEN_47, LEN_48, LEN_79, LEN_116, ne_eq, not_true_eq_false, decide_false]
    exact ⟨by trivial, by trivial⟩
  rintro _ _ _ ⟨rfl, rfl⟩
  simp only [List.getD_cons_zero, xIf_false]
  have hrl : ∀ i, i < nn → ((encP kk nn B s).getD i []).length = s := fun i hi => by rw [encP_get hi, mixP_len]
  have hFl := encP_len kk nn B s
  have hFg : ∀ i, i < nn → (encP kk nn B s).getD i [] = mixP (crow kk i) B s := fun i hi => encP_get hi
  generalize encP kk nn B s = F at *
  refine makeB (by omega) fun w4 ho4 hk4 hz4 => ?_
  generalize hgo : w3.heap.size = go at *
  simp only [xP_nil, xP_pick, xP_func, xP_not, xP_add, xP_sub, xP_mul, xP_lss, xP_leq, xP_gtr, xP_geq, xP_max2, xP_min2, xR_eql, xR_neq, Nat.zero_add, Nat.add_zero, Nat.reduceAdd, List.getD_cons_zero, List.getD_cons_succ, xIf_true, xIf_false, FA_35_0, FA_35_1, FA_66_0, FA_66_1, FA_66_2, FA_82_0, FA_82_1, FA_82_2, FA_86_0, FA_86_1, LEN_29, LEN_32, LEN_47, LEN_48, LEN_79, LEN_116]
  refine xLoop_of (fun ls w' => ∃ (i : Nat) (xs : List UInt8), ls = [.int .i64 i] ∧ i ≤ s ∧ xs.length = s ∧ Own w' 5 1 (.slice (some ⟨go, 0, none⟩) s s) s (xs.flatMap encB) [go] ∧ Kept [] w3 w')
    (fun ls _ => match ls with | [.int _ i] => s - i.toNat | _ => 0) ⟨0, _, rfl, by omega, by simp, ho4, hk4⟩ ?_
  rintro _ _ w5 ⟨i, xs, rfl, his, hxl, ho5, hk5⟩
  simp only [xP_nil, xP_pick, xP_func, xP_not, xP_add, xP_sub, xP_mul, xP_lss, xP_leq, xP_gtr, xP_geq, xP_max2, xP_min2, xR_eql, xR_neq, Nat.zero_add, Nat.add_zero, Nat.reduceAdd, List.getD_cons_zero, List.getD_cons_succ, xIf_true, xIf_false, FA_35_0, FA_35_1, FA_66_0, FA_66_1, FA_66_2, FA_82_0, FA_82_1, FA_82_2, FA_86_0, FA_86_1, LEN_29, LEN_32, LEN_47, LEN_48, LEN_79, LEN_116, xIf_dec]
  refine ⟨fun hlt => ?_, fun hge => ?_⟩
  · have hi1 : i < s := by omega
    refine (xP_IAn SL_32 SZ_5 hi1).2 ?_
    rw [Nat.mul_one]
    refine xE_storeOwn SZ_5 ho5 (i := i) (by rw [flat_len encB_len]; omega) rfl fun w6 ho6 hk6 hz6 => ?_
    rw [flip_set8] at ho6
    rw [wrap64 (by omega) (by omega)]
    exact ⟨⟨i + 1, xs.set i junk, rfl, by omega, by rw [List.length_set]; exact hxl, ho6, hk5.then hk6 (fun g hg => by simp at hg; exact .inr (by omega))⟩, by omega⟩
  · have hk05 := hk03.then hk5 (by simp)
    refine xE_alloc Z_49 fun w6 hb6 hk6 hz6 => ?_
    have hb6 : Blk w6 w5.heap.size 49 (metB fun _ => false) := hb6
    have hz5 := hk5.size
    have hgo5 : go < w5.heap.size := ho5.lt go (by simp)
    have ho6 := ho5.kept hk6 (by simp)
    have hk36 := hk5.then hk6 (by simp)
    generalize hmb : w5.heap.size = mb at *
    refine xLoop_of (fun ls w' => ∃ (i : Nat) (o : Value) (ps : List Pt) (Gp : List Nat) (fm : Nat → Bool), ls = [o, .int .i64 ((chosenP kk ps).length : Nat), .int .i64 i] ∧ i ≤ 30 ∧ ps.length = i ∧ OwnP w' o ps Gp ∧ Blk w' mb 49 (metB fm) ∧ (∀ j, j < 8 → fm j = hasAt (chosenP kk ps) (j : Nat)) ∧ (∀ g ∈ Gp, mb < g) ∧ (∀ q ∈ ps, (∃ x : Nat, x < nn ∧ q.at_ = x) ∧ q.d.length = s ∧ ((q.v = .slice (some ⟨go, 0, none⟩) s s ∧ q.d = xs) ∨ SlT w3 encB q.v q.d)) ∧
        (∀ q ∈ chosenP kk ps, q.d = F.getD q.at_.toNat []) ∧ Own w' 5 1 (.slice (some ⟨go, 0, none⟩) s s) s (xs.flatMap encB) [go] ∧ Kept [] w3 w' ∧ mb < w'.heap.size)
      (fun ls _ => match ls with | [_, _, .int _ i] => 30 - i.toNat | _ => 0) ⟨0, _, [], [], fun _ => false, rfl, by omega, rfl, own_nil _ _ _, hb6, fun _ _ => rfl, by simp, by simp, (fun q hq => by simp [chosenP] at hq), ho6, hk36, by omega⟩ ?_
    rintro _ _ w7 ⟨i, o, ps, Gp, fm, rfl, hi30, hpl, hop, hbm, hfm, hGp, hps, htr, hod, hk7, hz7⟩
    have hk07 := hk03.then hk7 (by simp)
    have hcl := chosen_le kk ps
    simp only [List.getD_cons_zero, List.getD_cons_succ]
    have hodT : SlT w7 encB (.slice (some ⟨go, 0, none⟩) s s) xs := Own.slT (sz := 1) (l := xs) (by rw [hxl]; exact hod) encB_len (by omega)
    refine xTest3 (fun h1 h2 _ => ?_) (fun _ _ => ?_)
    · simp only [List.getD_cons_zero, xIf_true]
      refine (rowI8.get hord0 hk07 h1).2 ?_
      simp only [xP_nil, xP_pick, xP_func, xP_not, xP_add, xP_sub, xP_mul, xP_lss, xP_leq, xP_gtr, xP_geq, xP_max2, xP_min2, xR_eql, xR_neq, Nat.zero_add, Nat.add_zero, Nat.reduceAdd, List.getD_cons_zero, List.getD_cons_succ, xIf_true, xIf_false, FA_35_0, FA_35_1, FA_66_0, FA_66_1, FA_66_2, FA_82_0, FA_82_1, FA_82_2, FA_86_0, FA_86_1, LEN_29, LEN_32, LEN_47, LEN_48, LEN_79, LEN_116]
      rw [wrap64 (by omega) (by omega)]
      refine withinN (by omega) (by omega) (by omega) fun x hx0 hx1 => ?_
      have hxn : x < nn := by omega
      have hx8 : x < 8 := by omega
      refine xJoin_of (fun ls w' => ∃ (q : Pt) (fm' : Nat → Bool), ls = [.int .i64 ((chosenP kk (ps ++ [q])).length : Nat), q.v] ∧ q.at_ = x ∧ q.d.length = s ∧ ((q.v = .slice (some ⟨go, 0, none⟩) s s ∧ q.d = xs) ∨ SlT w3 encB q.v q.d) ∧ Blk w' mb 49 (metB fm') ∧ (∀ j, j < 8 → fm' j = hasAt (chosenP kk (ps ++ [q])) (j : Nat)) ∧ (∀ r ∈ chosenP kk (ps ++ [q]), r.d = F.getD r.at_.toNat []) ∧ Kept [mb] w7 w' ∧ w7.heap.size ≤ w'.heap.size) ?_ ?_
      · refine xJoin_of (fun ls w' => ls = [.bool (decide (¬ (hasAt (chosenP kk ps) (x : Nat) = true ∨ (chosenP kk ps).length = kk)))] ∧ w7 = w') ?_ ?_
        · simp only [xP_nil, xP_pick, xP_func, xP_not, xP_add, xP_sub, xP_mul, xP_lss, xP_leq, xP_gtr, xP_geq, xP_max2, xP_min2, xR_eql, xR_neq, Nat.zero_add, Nat.add_zero, Nat.reduceAdd, List.getD_cons_zero, List.getD_cons_succ, xIf_true, xIf_false, FA_35_0, FA_35_1, FA_66_0, FA_66_1, FA_66_2, FA_82_0, FA_82_1, FA_82_2, FA_86_0, FA_86_1, LEN_29, LEN_32, LEN_47, LEN_48, LEN_79, LEN_116, xIf_dec]
          refine ⟨fun hlt => ?_, fun hge => ⟨by rw [decide_eq_false (fun h => h (.inr (by omega)))], by trivial⟩⟩
          refine (xP_IAarr AR8B SZ_4 hx8).2 ?_
          rw [Nat.zero_add, Nat.mul_one]
          refine (ld1 ONE_4 ((hbm.cell (o := x)).trans (metB_get hx8))).2 ?_
          rw [hfm x hx8]
          simp only [xP_nil, xP_pick, xP_func, xP_not, xP_add, xP_sub, xP_mul, xP_lss, xP_leq, xP_gtr, xP_geq, xP_max2, xP_min2, xR_eql, xR_neq, Nat.zero_add, Nat.add_zero, Nat.reduceAdd, List.getD_cons_zero, List.getD_cons_succ, xIf_true, xIf_false, FA_35_0, FA_35_1, FA_66_0, FA_66_1, FA_66_2, FA_82_0, FA_82_1, FA_82_2, FA_86_0, FA_86_1, LEN_29, LEN_32, LEN_47, LEN_48, LEN_79, LEN_116]
          refine ⟨?_, by trivial⟩
          cases hh : hasAt (chosenP kk ps) (x : Nat) with
          | true => simp
          | false => rw [decide_eq_true (by simp; omega)]; rfl
        rintro _ _ _ ⟨rfl, rfl⟩
        simp only [List.getD_cons_zero, xIf_dec]
        have hd7 := hk7.then (kept_drew [] w7) (by simp)
        refine ⟨fun hnot => ?_, fun hskip => ?_⟩
        · refine hL3.getA rowW ONE_32 hd7 (by omega) fun A u hu hA => ?_
          refine (xP_IAarr AR8B SZ_4 hx8).2 ?_
          rw [Nat.zero_add, Nat.mul_one]
          have hbmd : Blk w7.drew mb 49 (metB fm) := hbm
          refine xE_store1 SZ_4 hbmd (by rw [metB_len]; omega) rfl fun w8 hb8 hk8 hz8 => ?_
          have hk78 : Kept [mb] w7 w8 := ((kept_drew [] w7).mono (by simp)).then hk8 (by simp)
          have hk38 : Kept [] w3 w8 := hd7.then hk8 (fun g hg => by simp at hg; exact .inr (by omega))
          refine (still1 ONE_32 (hA w8 hk38)).2 ?_
          have hpk : chosenP kk (ps ++ [⟨x, u, F.getD x []⟩]) = chosenP kk ps ++ [⟨x, u, F.getD x []⟩] := by
            rw [chosen_snoc]
            exact if_neg hnot
          have hh : hasAt (chosenP kk ps) (x : Nat) = false := by
            cases h : hasAt (chosenP kk ps) (x : Nat) with
            | true => exact absurd (.inl h) hnot
            | false => rfl
          rw [metB_set] at hb8
          rw [wrap64 (by omega) (by omega)]
          refine ⟨⟨x, u, F.getD x []⟩, _, ?_, rfl, hrl x hxn, .inr hu, hb8, fun j hj => ?_, fun r hr => ?_, hk78, by have : w7.drew.heap.size = w7.heap.size := rfl; omega⟩
          · rw [hpk, List.length_append]; rfl
          · rw [hpk, hasAt_snoc (t := x) rfl, hfm j hj]
          · rw [hpk] at hr
            rcases List.mem_append.1 hr with hr | hr
            · exact htr r hr
            · simp at hr
              subst hr
              rfl
        · have hsk : hasAt (chosenP kk ps) (x : Nat) = true ∨ (chosenP kk ps).length = kk := Classical.not_not.1 hskip
          have hpk : chosenP kk (ps ++ [⟨x, .slice (some ⟨go, 0, none⟩) s s, xs⟩]) = chosenP kk ps := by
            rw [chosen_snoc]
            exact if_pos hsk
          refine ⟨⟨x, .slice (some ⟨go, 0, none⟩) s s, xs⟩, fm, by rw [hpk], rfl, hxl, .inl ⟨rfl, rfl⟩, hbm, fun j hj => by rw [hpk]; exact hfm j hj, fun r hr => htr r (by rw [hpk] at hr; exact hr), Kept.refl _ _, Nat.le_refl _⟩
      rintro _ _ w8 ⟨q, fm', rfl, hqa, hql, hqv, hb8, hfm', htr', hk78, hz8⟩
      simp only [List.getD_cons_zero, List.getD_cons_succ]
      have hmb3 : w3.heap.size ≤ mb := by rw [hgo]; omega
      have hk38 : Kept [] w3 w8 := hk7.then hk78 (fun g hg => by simp at hg; subst hg; exact .inr hmb3)
      have hmbG : mb ∉ Gp := fun hm => by have := hGp mb hm; omega
      have hop8 : OwnP w8 o ps Gp := hop.kept hk78 (fun g hg hm => by simp at hm; subst hm; exact hmbG hg)
      have hod8 := hod.kept hk78 (fun g hg hm => by simp at hg hm; omega)
      have hodT8 : SlT w8 encB (.slice (some ⟨go, 0, none⟩) s s) xs := Own.slT (sz := 1) (l := xs) (by rw [hxl]; exact hod8) encB_len (by omega)
      have hq8 : SlT w8 encB q.v q.d := by
        rcases hqv with ⟨e1, e2⟩ | h
        · rw [e1, e2]; exact hodT8
        · exact h.kept0 hk38
      obtain ⟨qa, qv, qd⟩ := q
      simp only at hqa
      subst hqa
      have hbl : ∀ {K : Value → Prop}, xP Tryd.prog (sBuild 35 #[(0, .int .i64 (x : Nat)), (1, qv)]) K ↔ K (.agg #[.int .i64 (x : Nat), qv]) := fun {K} => bldPt hq8
      refine hbl.2 ?_
      refine appPt (q := ⟨x, qv, qd⟩) hop8 hq8 (by omega) fun o' w9 G' ho9 _ hk9 hG' => ?_
      rw [wrap64 (by omega) (by omega)]
      refine ⟨⟨i + 1, o', ps ++ [⟨x, qv, qd⟩], G', fm', rfl, by omega, by simp [hpl], ho9, hb8.kept hk9 hmbG, hfm', fun g hg => (hG' g hg).elim (hGp g) (fun h => by omega), fun r hr => ?_, htr', hod8.kept hk9 (fun g hg hm => by simp at hg; have := hGp g hm; omega), hk38.then hk9 (fun g hg => .inr (by have := hGp g hg; omega)), by have := hk9.size; omega⟩, by omega⟩
      rcases List.mem_append.1 hr with hr | hr
      · exact hps r hr
      · simp at hr
        subst hr
        exact ⟨⟨x, hxn, rfl⟩, hql, hqv⟩
    · simp only [List.getD_cons_zero, xIf_false]
      have hds : ∀ q ∈ ps, q.d.length = s := fun q hq => (hps q hq).2.1
      have hbad : ps.findIdx (badPt nn ps) = ps.length := List.findIdx_eq_length_of_false fun q hq => by
        obtain ⟨⟨x, hx, hxa⟩, hl, _⟩ := hps q hq
        exact goodPt (by omega) (by omega) (by rw [s0_all hds (List.length_pos_of_mem hq), hl])
      have hpok : PtsOk w7 ps := fun q hq => by
        rcases (hps q hq).2.2 with ⟨e1, e2⟩ | h
        · rw [e1, e2]; exact hodT
        · exact h.kept0 hk7
      refine xE_call CF_15 (decode_ok (hC3.kept0 hk7) (ownP_sl hop) hpok (by omega) (s0_le hds (by omega))) ?_
      rintro _ w8 ⟨hdec, hk8⟩
      have hk08 := hk07.then hk8 (by simp)
      rcases hdec with ⟨h1, _⟩ | ⟨_, h1, rfl⟩ | ⟨_, hcl2, y, X, rfl, hX1, hX2, hX3, hX4⟩
      · omega
      · simp only [xP_ex0, xP_ex1, xP_lss]
        rw [decide_eq_true (by omega)]
        simp only [xIf_true]
        refine kindR trivial (hg.kept0 hk08) fun w9 hk9 => ?_
        simp only [Er.kind, xR_eql, decide_true, xIf_true]
        exact cRunsG hg (hk08.then hk9 (by simp))
      · simp only [xP_ex0, xP_ex1, xP_lss]
        rw [decide_eq_false (by omega)]
        simp only [xIf_false]
        refine (xR_eqlN IFE).2 ?_
        simp only [xIf_true]
        have hp1 : 1 ≤ ps.length := Nat.pos_of_ne_zero fun h0 => by
          rw [List.eq_nil_of_length_eq_zero h0] at hcl2
          simp [chosenP] at hcl2
          omega
        have hs0 : s0 ps = s := s0_all hds hp1
        rw [hs0] at hX2 hX4
        obtain rfl : B = X := (dec_back (by omega) hbad hcl2 (by omega) hX1 hX2 hBl hBr hX4 (fun q hq => by
          rw [htr q hq]
          obtain ⟨⟨x, hx, hxa⟩, _⟩ := hps q (chosen_mem hq)
          rw [hxa]
          exact hFg x hx)).symm
        refine sameS hX3 ((hR3.kept0 hk7).kept0 hk8) (by omega) (fun r hr => by rw [hBr r hr]; omega) fun w9 hk9 => ?_
        simp only [decide_true, xIf_true]
        exact cRunsG hg (hk08.then hk9 (by simp))
end Go.Proofs.YtoanmeohlpdjfaaDoor
