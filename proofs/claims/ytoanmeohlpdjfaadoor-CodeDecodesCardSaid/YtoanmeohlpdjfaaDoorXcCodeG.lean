import Derived.Test.YtoanmeohlpdjfaaDoorXcCodeF
import Derived.Test.YtoanmeohlpdjfaaDoorXcFaultP3
import Derived.Test.YtoanmeohlpdjfaaDoorXApp2
namespace Go.Proofs.YtoanmeohlpdjfaaDoor
set_option linter.unusedSimpArgs false
set_option linter.unusedVariables false
set_option maxRecDepth 100000
attribute [local irreducible] Go.X.xE
open Go Go.X Go.RowKit

/-! ## Lists of parts of one's own -/
theorem bldPt {a : Int} {v : Value} {x : List UInt8} {w : World} {K : Value → Prop} (hv : SlT w encB v x) : xP Tryd.prog (sBuild 35 #[(0, .int .i64 a), (1, v)]) K ↔ K (.agg #[.int .i64 a, v]) := by
  obtain ⟨b, c, rfl, _⟩ := hv
  exact xP_build (cells := #[.int .i64 a, .slice b x.length c]) (by kernel_rfl)
abbrev OwnP (w : World) (v : Value) (l : List Pt) (G : List Nat) : Prop := Own w 35 2 v l.length (l.flatMap encPt) G
theorem appPt {l : List Pt} {v : Value} {G : List Nat} {q : Pt} {w : World} {K : Value → World → Prop} (h : OwnP w v l G) (hq : SlT w encB q.v q.d) (hl : l.length < 1000)
    (k : ∀ u w' G', OwnP w' u (l ++ [q]) G' → OwnP w' v l G → Kept G w w' → (∀ g ∈ G', g ∈ G ∨ w.heap.size ≤ g) → K u w') :
    xE Tryd.prog (sBuildSlice 48 1 #[(0, .agg #[.int .i64 q.at_, q.v])]) w fun a w1 => xE Tryd.prog (sB .append #[48, 48] #[v, a]) w1 fun u w2 => K u w2 := by
  refine xE_buildSlice EL_48 [.agg #[.int .i64 q.at_, q.v]] rfl rfl (by simp [Value.cells]) (by omega) (by omega) fun w1 hb1 hk1 hz1 => ?_
  have hat : At w1 w.heap.size 0 ([q].flatMap encPt) := by
    have := hb1.at
    simpa [encPt, Value.cells] using this
  refine xE_append2 (m := 1) EL_48 (h.kept hk1 (by simp)) hat (by rw [flat_len encPt_len]; rfl) (by intro u hu; simp at hu; exact encPt_one hq u hu) (by omega) (by unfold maxLen; omega) (by omega) fun u w2 G' ho hk2 hG' _ hold => ?_
  have hz := h.lt
  refine k u w2 G' ?_ hold ((hk1.mono (by simp)).then hk2 (fun g hg => .inl hg)) (fun g hg => (hG' g hg).imp id (fun h => by omega))
  show Own w2 _ 2 u (l ++ [q]).length _ G'
  rw [List.flatMap_append, List.length_append]
  exact ho
theorem ownP_sl {w : World} {v : Value} {l : List Pt} {G : List Nat} (h : OwnP w v l G) : SlT w encPt v l := Own.slT h encPt_len (by omega)
theorem partsLen {w : World} {v : Value} {l : List Pt} (h : SlT w encPt v l) {R : Value → Prop} : xP Tryd.prog (sB .len #[48] #[v]) R ↔ R (.int .i64 l.length) := by
  obtain ⟨a, c, rfl, _, _⟩ := h
  exact xP_len SL_48
theorem chosen_same {k : Nat} {a : Int} : ∀ (ps : List Pt) (r : Pt), r.at_ = a → (∀ q ∈ ps, q.at_ = a) → ps.foldl (pick k) [r] = [r]
  | [], _, _, _ => rfl
  | q :: ps, r, hr, h => by
    have e : pick k [r] q = [r] := by
      unfold pick
      rw [if_pos (.inl (by simp [hasAt, hr, h q List.mem_cons_self]))]
    rw [List.foldl_cons, e]
    exact chosen_same ps r hr fun q hq => h q (List.mem_cons_of_mem _ hq)
theorem chosen_one {k : Nat} {a : Int} {ps : List Pt} (hk : 1 ≤ k) (hp : 1 ≤ ps.length) (h : ∀ q ∈ ps, q.at_ = a) : (chosenP k ps).length = 1 := by
  cases ps with
  | nil => simp at hp
  | cons q ps =>
    unfold chosenP
    have e : pick k [] q = [q] := by
      unfold pick
      rw [if_neg (by simp [hasAt]; omega)]
      rfl
    rw [List.foldl_cons, e, chosen_same ps q (h q List.mem_cons_self) fun r hr => h r (List.mem_cons_of_mem _ hr)]
    rfl
theorem find_last {p : Pt → Bool} {l : List Pt} {q : Pt} (h : ∀ r ∈ l, p r = false) (hq : p q = true) : (l ++ [q]).findIdx p = l.length := by
  rw [List.findIdx_append, List.findIdx_eq_length_of_false h]
  rw [if_neg (Nat.lt_irrefl _)]
  simp [List.findIdx_cons, hq]
theorem s0_app {l : List Pt} {q : Pt} (h : 1 ≤ l.length) : s0 (l ++ [q]) = s0 l := by
  unfold s0
  rw [getD_lt (by rw [List.length_append]; omega), getD_lt h, List.getElem_append_left h]
theorem whereR {op : ByteArray} {i k : Int} {w : World} {K : Value → World → Prop} (hg : Glob w) (kk : ∀ w', Kept [] w w' → K (.tuple #[.string op, .int .i64 i, .bool true]) w') : xE Tryd.prog (sCall 26 #[erV (.flt op i (.no k))]) w K := by
  refine xE_call CF_26 (where_ok (e := .flt op i (.no k)) trivial (by simp [Er.faults]) hg) ?_
  rintro _ w' ⟨rfl, hk⟩
  exact kk w' hk
theorem goodPt {n : Nat} {l : List Pt} {q : Pt} (h1 : 0 ≤ q.at_) (h2 : q.at_ < n) (h3 : q.d.length = s0 l) : badPt n l q = false := by
  unfold badPt
  rw [decide_eq_false_iff_not]
  omega
theorem cfew_ok {k n size at_ many : Int} {b : List UInt8} {vb : Value} {w : World} (hg : Glob w) (hb : SlT w encB vb b) :
    Gives Tryd.prog 11 #[.int .i64 k, .int .i64 n, .int .i64 size, .int .i64 at_, .int .i64 many, vb] w fun u w' => u = .bool true ∧ Kept [] w w' := by
  refine C_stavelaw4_CodeFew ?_
  unfold S_stavelaw4_CodeFew
  refine withinN (by omega) (by omega) (by omega) fun kk hk1 hk8 => ?_
  refine withinN (by omega) (by omega) (by omega) fun nn hn1 hn8 => ?_
  refine newS (by omega) (by omega) (by omega) fun p f cv w1 hC hkc => ?_
  simp only [xP_ex0, xP_ex1]
  refine madeT fun _ => ?_
  simp only [List.getD_cons_zero, xIf_false]
  refine withinN (by omega) (by omega) (by omega) fun s hs1 hs9 => ?_
  refine madeS (hb.kept0 hkc) (by omega) (by omega) fun bv rs G w2 ho2 hr2 hk2 => ?_
  have hBl := madeP_len kk s b
  have hBr := @madeP_rows kk s b
  generalize madeP kk s b = B at *
  have hR2 : RowsT w2 bv B := by rw [← hr2]; exact ho2.rows
  have hC2 := hC.kept0 hk2
  have hk02 := hkc.then hk2 (by simp)
  refine encG hC2 hR2 hBl hBr (by omega) fun lv w3 hL3 hk3 => ?_
  simp only [xP_ex0, xP_ex1]
  have hC3 := hC2.kept0 hk3
  have hk03 := hk02.then hk3 (by simp)
  refine xJoin_of (fun ls w' => ls = [.bool false] ∧ w3 = w') ?_ ?_
  · refine (xR_neqN IFE).2 ?_
    simp only [xIf_false]
    refine (rowsLen hL3).2 ?_
    rw [encP_len]
    simp only [xP_nil, xP_pick, xP_func, xP_not, xP_add, xP_sub, xP_mul, xP_lss, xP_leq, xP_gtr, xP_geq, xP_max2, xP_min2, xR_eql, xR_neq, Nat.zero_add, Nat.add_zero, Nat.reduceAdd, List.getD_cons_zero, List.getD_cons_succ, xIf_true, xIf_false, FA_35_0, FA_35_1, FA_66_0, FA_66_1, FA_66_2, FA_82_0, FA_82_1, FA_82_2, FA_86_0, FA_86_1, LEN_29, LEN_32, LEN_47, LEN_48, LEN_79, LEN_116, ne_eq, not_true_eq_false, decide_false]
    exact ⟨by trivial, by trivial⟩
  rintro _ _ _ ⟨rfl, rfl⟩
  simp only [List.getD_cons_zero, xIf_false, xP_nil, xP_pick, xP_func, xP_not, xP_add, xP_sub, xP_mul, xP_lss, xP_leq, xP_gtr, xP_geq, xP_max2, xP_min2, xR_eql, xR_neq, Nat.zero_add, Nat.add_zero, Nat.reduceAdd, List.getD_cons_zero, List.getD_cons_succ, xIf_true, xIf_false, FA_35_0, FA_35_1, FA_66_0, FA_66_1, FA_66_2, FA_82_0, FA_82_1, FA_82_2, FA_86_0, FA_86_1, LEN_29, LEN_32, LEN_47, LEN_48, LEN_79, LEN_116]
  rw [wrap64 (by omega) (by omega)]
  refine withinN (by omega) (by omega) (by omega) fun x hx0 hx1 => ?_
  have hxn : x < nn := by omega
  have hrl : ∀ i, i < nn → ((encP kk nn B s).getD i []).length = s := fun i hi => by rw [encP_get hi, mixP_len]
  have hFl := encP_len kk nn B s
  generalize encP kk nn B s = F at *
  refine xLoop_of (fun ls w' => ∃ (m : Nat) (o : Value) (ps : List Pt) (Gp : List Nat), ls = [o, .int .i64 m] ∧ m ≤ 9 ∧ ps.length = m ∧ OwnP w' o ps Gp ∧ (∀ g ∈ Gp, w3.heap.size ≤ g) ∧ (∀ q ∈ ps, q.at_ = x ∧ q.d = F.getD x [] ∧ SlT w3 encB q.v q.d) ∧ Kept [] w3 w')
    (fun ls _ => match ls with | [_, .int _ i] => 9 - i.toNat | _ => 0) ⟨0, _, [], [], rfl, by omega, rfl, own_nil _ _ _, by simp, by simp, Kept.refl _ _⟩ ?_
  rintro _ _ w4 ⟨m, o, ps, Gp, rfl, hm9, hml, ho4, hGp, hps, hk4⟩
  refine withinN (by omega) (by omega) (by omega) fun mm hmm1 hmm9 => ?_
  simp only [xP_nil, xP_pick, xP_func, xP_not, xP_add, xP_sub, xP_mul, xP_lss, xP_leq, xP_gtr, xP_geq, xP_max2, xP_min2, xR_eql, xR_neq, Nat.zero_add, Nat.add_zero, Nat.reduceAdd, List.getD_cons_zero, List.getD_cons_succ, xIf_true, xIf_false, FA_35_0, FA_35_1, FA_66_0, FA_66_1, FA_66_2, FA_82_0, FA_82_1, FA_82_2, FA_86_0, FA_86_1, LEN_29, LEN_32, LEN_47, LEN_48, LEN_79, LEN_116, xIf_dec]
  refine ⟨fun hlt => ?_, fun hge => ?_⟩
  · refine hL3.get rowW hk4 (by rw [hFl]; exact hxn) fun u hu => ?_
    refine (bldPt (hu.kept0 hk4)).2 ?_
    refine appPt (q := ⟨x, u, F.getD x []⟩) ho4 (hu.kept0 hk4) (by omega) fun o' w5 G' ho5 _ hk5 hG' => ?_
    try simp only [xP_nil, xP_pick, xP_func, xP_not, xP_add, xP_sub, xP_mul, xP_lss, xP_leq, xP_gtr, xP_geq, xP_max2, xP_min2, xR_eql, xR_neq, Nat.zero_add, Nat.add_zero, Nat.reduceAdd, List.getD_cons_zero, List.getD_cons_succ, xIf_true, xIf_false, FA_35_0, FA_35_1, FA_66_0, FA_66_1, FA_66_2, FA_82_0, FA_82_1, FA_82_2, FA_86_0, FA_86_1, LEN_29, LEN_32, LEN_47, LEN_48, LEN_79, LEN_116]
    rw [wrap64 (by omega) (by omega)]
    have hz4 := hk4.size
    refine ⟨⟨m + 1, o', ps ++ [⟨x, u, F.getD x []⟩], G', rfl, by omega, by simp [hml], ho5, fun g hg => (hG' g hg).elim (hGp g) (fun h => by omega), fun q hq => ?_, hk4.then hk5 (fun g hg => .inr (hGp g hg))⟩, by omega⟩
    rcases List.mem_append.1 hq with hq | hq
    · exact hps q hq
    · simp at hq
      subst hq
      exact ⟨rfl, rfl, hu⟩
  · have hm1 : 1 ≤ ps.length := by omega
    have hs0 : s0 ps = s := by
      unfold s0
      rw [getD_lt hm1, (hps _ (List.getElem_mem _)).2.1, hrl x hxn]
    have hgood : ∀ q ∈ ps, badPt nn ps q = false := fun q hq => goodPt (by rw [(hps q hq).1]; omega) (by rw [(hps q hq).1]; omega) (by rw [hs0, (hps q hq).2.1, hrl x hxn])
    have hpok : PtsOk w4 ps := fun q hq => ((hps q hq).2.2).kept0 hk4
    have hC4 := hC3.kept0 hk4
    have hk04 := hk03.then hk4 (by simp)
    refine xE_call CF_15 (decode_ok hC4 (ownP_sl ho4) hpok (by omega) (by omega)) ?_
    rintro _ w5 ⟨hdec, hk5⟩
    have hchl := chosen_one (k := kk) (by omega) hm1 fun q hq => (hps q hq).1
    rcases hdec with ⟨h1, _⟩ | ⟨_, _, rfl⟩ | ⟨_, h1, _⟩
    · rw [List.findIdx_eq_length_of_false hgood] at h1; omega
    rotate_left
    · omega
    rw [hchl]
    simp only [xP_ex0, xP_ex1]
    have hk35 := hk4.then hk5 (by simp)
    have hk05 := hk04.then hk5 (by simp)
    have ho5 := ho4.kept hk5 (by simp)
    refine hL3.get (i := 0) rowW hk35 (by omega) fun u0 hu0 => ?_
    refine (bldPt (hu0.kept0 hk35)).2 ?_
    refine appPt (q := ⟨nn, u0, F.getD 0 []⟩) ho5 (hu0.kept0 hk35) (by omega) fun bv2 w6 G6 ho6 hold6 hk6 hG6 => ?_
    have hk36 := hk35.then hk6 (fun g hg => .inr (hGp g hg))
    have hk06 := hk05.then hk6 (fun g hg => .inr (by have := hGp g hg; have := hk03.size; omega))
    have hbad1 : (ps ++ [(⟨nn, u0, F.getD 0 []⟩ : Pt)]).findIdx (badPt nn (ps ++ [(⟨nn, u0, F.getD 0 []⟩ : Pt)])) = ps.length := by
      refine find_last (fun q hq => ?_) ?_
      · exact goodPt (by rw [(hps q hq).1]; omega) (by rw [(hps q hq).1]; omega) (by rw [s0_app hm1, hs0, (hps q hq).2.1, hrl x hxn])
      · unfold badPt
        rw [decide_eq_true]
        right; left
        exact Int.le_refl _
    refine xE_call CF_15 (decode_ok (hC3.kept0 hk36) (ownP_sl ho6) (fun q hq => ?_) (by rw [List.length_append]; simp; omega) (by rw [s0_app hm1]; omega)) ?_
    · rcases List.mem_append.1 hq with hq | hq
      · exact ((hps q hq).2.2).kept0 hk36
      · simp at hq
        subst hq
        exact hu0.kept0 hk36
    rintro _ w7 ⟨hdec, hk7⟩
    rcases hdec with ⟨_, rfl⟩ | ⟨h1, _, _⟩ | ⟨h1, _, _⟩
    rotate_left
    · rw [hbad1, List.length_append] at h1; simp at h1
    · rw [hbad1, List.length_append] at h1; simp at h1
    rw [hbad1]
    simp only [xP_ex0, xP_ex1]
    have hk37 := hk36.then hk7 (by simp)
    have hk07 := hk06.then hk7 (by simp)
    refine hL3.get (i := 0) rowW hk37 (by omega) fun u1 hu1 => ?_
    have hu1' := hu1
    obtain ⟨ua, uc, rfl, huc, _⟩ := hu1
    have h0l := hrl 0 (by omega)
    refine (xP_from (i := 1) SL_32 SZ_5 (by omega) (by omega)).2 ?_
    have hf1 := SlT.from1 encB_len hu1' (by omega)
    have hf7 := hf1.kept0 hk37
    refine (bldPt (x := (F.getD 0 []).drop 1) (a := 0) hf7).2 ?_
    refine appPt (q := ⟨0, _, (F.getD 0 []).drop 1⟩) (hold6.kept hk7 (by simp)) hf7 (by omega) fun ov2 w8 G8 ho8 hold8 hk8 hG8 => ?_
    have hk38 := hk37.then hk8 (fun g hg => .inr (hGp g hg))
    have hk08 := hk07.then hk8 (fun g hg => .inr (by have := hGp g hg; have := hk03.size; omega))
    generalize hqd : (⟨0, _, (F.getD 0 []).drop 1⟩ : Pt) = qo at *
    have hbad2 : (ps ++ [qo]).findIdx (badPt nn (ps ++ [qo])) = ps.length := by
      refine find_last (fun q hq => ?_) ?_
      · exact goodPt (by rw [(hps q hq).1]; omega) (by rw [(hps q hq).1]; omega) (by rw [s0_app hm1, hs0, (hps q hq).2.1, hrl x hxn])
      · unfold badPt
        rw [decide_eq_true]
        right; right
        rw [s0_app hm1, hs0, ← hqd]
        show ((F.getD 0 []).drop 1).length ≠ s
        rw [List.length_drop]
        omega
    refine xE_call CF_15 (decode_ok (hC3.kept0 hk38) (ownP_sl ho8) (fun q hq => ?_) (by rw [List.length_append]; simp; omega) (by rw [s0_app hm1]; omega)) ?_
    · rcases List.mem_append.1 hq with hq | hq
      · exact ((hps q hq).2.2).kept0 hk38
      · simp at hq
        rw [hq, ← hqd]
        exact hf1.kept0 hk38
    rintro _ w9 ⟨hdec, hk9⟩
    rcases hdec with ⟨_, rfl⟩ | ⟨h1, _, _⟩ | ⟨h1, _, _⟩
    rotate_left
    · rw [hbad2, List.length_append] at h1; simp at h1
    · rw [hbad2, List.length_append] at h1; simp at h1
    rw [hbad2]
    simp only [xP_ex0, xP_ex1]
    have hk39 := hk38.then hk9 (by simp)
    have hk09 := hk08.then hk9 (by simp)
    refine whereR (hg.kept0 hk09) fun w10 hk10 => ?_
    simp only [xP_t0, xP_t1, xP_t2]
    have hk0A := hk09.then hk10 (by simp)
    refine whereR (hg.kept0 hk0A) fun w11 hk11 => ?_
    simp only [xP_t0, xP_t1, xP_t2]
    have hk0B := hk0A.then hk11 (by simp)
    have hk9B := hk10.then hk11 (by simp)
    refine xE_call CF_23 (rebuild_bad (a := (nn : Nat)) (hC3.kept0 (hk39.then hk9B (by simp))) (by omega)) ?_
    rintro _ w12 ⟨rfl, hk12⟩
    simp only [xP_ex0, xP_ex1]
    have hk0C := hk0B.then hk12 (by simp)
    refine kindR trivial (hg.kept0 hk0C) fun w13 hk13 => ?_
    simp only [Er.kind, xR_eql, decide_true, xIf_true]
    have hk0D := hk0C.then hk13 (by simp)
    refine kindR trivial (hg.kept0 hk0D) fun w14 hk14 => ?_
    simp only [Er.kind, xR_eql, decide_true, xIf_true]
    have hk0E := hk0D.then hk14 (by simp)
    have hpl := ownP_sl hold8
    refine (partsLen hpl).2 ?_
    simp only [xR_eql, decide_true, xIf_true]
    refine kindR trivial (hg.kept0 hk0E) fun w15 hk15 => ?_
    simp only [Er.kind, xR_eql, decide_true, xIf_true]
    have hk0F := hk0E.then hk15 (by simp)
    refine (partsLen hpl).2 ?_
    simp only [xR_eql, decide_true, xIf_true]
    refine kindR trivial (hg.kept0 hk0F) fun w16 hk16 => ?_
    simp only [Er.kind, xR_eql, decide_true, xIf_true]
    exact cRunsG hg (hk0F.then hk16 (by simp))
end Go.Proofs.YtoanmeohlpdjfaaDoor
