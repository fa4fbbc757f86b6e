import Derived.Test.YtclojjiiiejfpaaDoorXgGramL2
namespace Go.Proofs.YtclojjiiiejfpaaDoor
set_option linter.unusedSimpArgs false
set_option linter.unusedVariables false
set_option maxRecDepth 100000
attribute [local irreducible] Go.X.xE
open Go Go.X Go.RowKit

/-! ## Put and Get, as a statement meets them -/
theorem putS {fs : List GFd} {vs : List GVl} {raws : List RawV} {v u : Value} {w : World} {K : Value → World → Prop} (hf : SlT w encF v fs) (hs : small fs) (hfl : fs.length ≤ 1000) (hv : SlT w encV u raws) (hr : IsRow w raws vs) (hvb : vs.length ≤ 1000000) (hll : ∀ y ∈ vs, y.l.length ≤ 9223372036854775806)
    (k : ∀ bv b er w', SlT w' encB bv b → Kept [] w w' → (er = none ∧ gramPut fs vs = .ok b ∨ ∃ i k, (k = 1 ∨ k = 2) ∧ er = some (.flt opPut i (.no k)) ∧ gramPut fs vs = .error (i, k) ∧ b = []) → K (.tuple #[bv, optV er]) w') :
    xE Tryd.prog (sCall 16 #[v, u]) w K := by
  refine xE_call CF_16 (put_ok (vs := vs) hf hs (by omega) hv hr.1 hr.2 hvb hll) ?_
  intro r w' hp
  unfold PutPost at hp
  cases hg : gramPut fs vs with
  | error e =>
    obtain ⟨i, kk⟩ := e
    rw [hg] at hp
    obtain ⟨rfl, hk⟩ := hp
    exact k (.slice none 0 0) [] (some (.flt opPut i (.no kk))) w' (SlT.nil_ _ _) hk (.inr ⟨i, kk, gramPut_err hg, rfl, hg, rfl⟩)
  | ok b =>
    rw [hg] at hp
    obtain ⟨u', rfl, hfr⟩ := hp
    exact k u' b none w' hfr.slT hfr.keptI (.inl ⟨rfl, hg⟩)
theorem getS {fs : List GFd} {b : List UInt8} {v u : Value} {w : World} {K : Value → World → Prop} (hf : SlT w encF v fs) (hs : small fs) (hfl : fs.length ≤ 1000) (hv : SlT w encB u b) (hbl : b.length ≤ 4611686018427387904)
    (k : ∀ gv rg gs er w', SlT w' encV gv rg → IsRow w' rg gs → (gs.length ≤ 1000 ∧ ∀ y ∈ gs, y.l.length ≤ 9223372036854775806) → Kept [] w w' → (er = none ∧ gramGet fs b = .ok gs ∨ ∃ i k, k ≠ 0 ∧ er = some (.flt opGet i (.no k)) ∧ gramGet fs b = .error (i, k) ∧ gs = []) → K (.tuple #[gv, optV er]) w') :
    xE Tryd.prog (sCall 18 #[v, u]) w K := by
  refine xE_call CF_18 (get_ok hf hs (by omega) hv hbl) ?_
  rintro r w' ⟨hk, hg⟩
  cases hgg : gramGet fs b with
  | error e =>
    obtain ⟨i, kk⟩ := e
    rw [hgg] at hg
    subst hg
    exact k (.slice none 0 0) [] [] (some (.flt opGet i (.no kk))) w' (SlT.nil_ _ _) (IsRow.nil _) (by simp) hk (.inr ⟨i, kk, gramGet_err hgg, rfl, hgg, rfl⟩)
  | ok gs =>
    rw [hgg] at hg
    obtain ⟨o, rg, rfl, ho, hrow, _⟩ := hg
    exact k o rg gs none w' ho hrow ⟨by rw [gramGet_len hgg]; omega, fun y hy => by have := getRest_small (gramGet_ok hgg).1 y hy; omega⟩ hk (.inl ⟨rfl, hgg⟩)
theorem kindFl {i k : Int} {w : World} {K : Value → World → Prop} {o : ByteArray} (hg : Glob w) (c : ∀ w', Kept [] w w' → K (.int .i64 k) w') : xE Tryd.prog (sCall 20 #[optV (some (.flt o i (.no k)))]) w K :=
  kindE_ok (e := .flt o i (.no k)) trivial rfl hg c
theorem leastS {fs : List GFd} {v : Value} {w : World} {K : Value → World → Prop} (hf : SlT w encF v fs) (hs : small fs) (hfl : fs.length ≤ 1000) (k : ∀ w', Kept [] w w' → K (.int .i64 (gramLeast fs)) w') : xE Tryd.prog (sCall 21 #[v]) w K :=
  xE_call CF_21 (least_ok hf hs hfl) (fun u w' ⟨h1, h2⟩ => by subst h1; exact k w' h2)
theorem bytesS {xs ys : List UInt8} {a b : Value} {w : World} {K : Value → World → Prop} (ha : SlT w encB a xs) (hb : SlT w encB b ys) (hl : xs.length ≤ 9223372036854775806) (k : ∀ w', Kept [] w w' → K (.bool (decide (xs = ys))) w') : xE Tryd.prog (sCall 17 #[a, b]) w K :=
  xE_call CF_17 (sameB_ok ha hb hl) (fun u w' ⟨h1, h2⟩ => by subst h1; exact k w' h2)
theorem rowSame {raws raws' : List RawV} {xs ys : List GVl} {a b : Value} {w : World} {K : Value → World → Prop} (ha : SlT w encV a raws) (hx : IsRow w raws xs) (hb : SlT w encV b raws') (hy : IsRow w raws' ys) (hl : xs.length ≤ 1000000) (hll : ∀ y ∈ xs, y.l.length ≤ 9223372036854775806)
    (k : ∀ w', Kept [] w w' → K (.bool (decide (xs = ys))) w') : xE Tryd.prog (sCall 29 #[a, b]) w K :=
  xE_call CF_29 (same_ok ha hx hb hy hl hll) (fun u w' ⟨h1, h2⟩ => by subst h1; exact k w' h2)
theorem fewS {fs : List GFd} {raws : List RawV} {vs : List GVl} {fv vv : Value} {w : World} {K : Value → World → Prop} (hf : SlT w encF fv fs) (hs : small fs) (hv : SlT w encV vv raws) (hr : IsRow w raws vs)
    (k : ∀ f1 v1 fs1 vs1 raws1 w', fs1 = fs.take 6 → vs1 = fewV vs → SlT w' encF f1 fs1 → small fs1 → fs1.length ≤ 6 → SlT w' encV v1 raws1 → IsRow w' raws1 vs1 → vs1.length ≤ 6 → (∀ y ∈ vs1, y.l.length ≤ 9223372036854775806) → Kept [] w w' → K (.tuple #[f1, v1]) w') :
    xE Tryd.prog (sCall 22 #[fv, vv]) w K := by
  refine xE_call CF_22 (few_ok hf hv hr) ?_
  rintro _ w1 ⟨f1, v1, raws1, rfl, hf1, hv1, hr1, hk1⟩
  exact k f1 v1 _ _ raws1 w1 rfl rfl hf1 (small_take hs 6) (by rw [List.length_take]; omega) hv1 hr1 (fewV_len vs) (fewV_small vs) hk1

/-! ## GramBack -/
theorem gback_ok {fs : List GFd} {raws : List RawV} {vs : List GVl} {fv vv : Value} {n : Int} {c : UInt8} {w : World} (hgl : Glob w) (hf : SlT w encF fv fs) (hs : small fs) (hv : SlT w encV vv raws) (hr : IsRow w raws vs) :
    Gives Tryd.prog 6 #[fv, vv, .int .i64 n, .int .u8 c.toNat] w fun u w' => u = .bool true ∧ Kept [] w w' := by
  refine C_stavelaw2_GramBack ?_
  unfold S_stavelaw2_GramBack
  refine fewS hf hs hv hr fun f1 v1 fs1 vs1 raws1 w1 _ _ hf1 hs1 hl1 hv1 hr1 hvl1 hvs1 hk1 => ?_
  simp only [xP_ex0, xP_ex1]
  refine putS hf1 hs1 (by omega) hv1 hr1 (by omega) hvs1 fun bv b er w2 hb2 hk2 hres => ?_
  have hk02 := hk1.then hk2 (by simp)
  simp only [xP_ex0, xP_ex1]
  refine optV_neq.2 ?_
  rcases hres with ⟨rfl, hg⟩ | ⟨i, k, hk0, rfl, hg, rfl⟩
  rotate_left
  · simp only [Option.isSome_some, xIf_true]
    obtain ⟨ba, bc, rfl, _, _⟩ := hb2
    try simp only [xP_nil, xP_pick, xP_func, xP_not, xP_add, xP_sub, xP_mul, xP_lss, xP_leq, xP_gtr, xP_geq, xP_max2, xP_min2, xR_eql, xR_neq, Nat.zero_add, Nat.add_zero, Nat.reduceAdd, List.getD_cons_zero, List.getD_cons_succ, xIf_true, xIf_false, FA_23_0, FA_23_1, FA_23_2, FA_23_3, FA_23_4, FA_32_0, FA_32_1, FA_32_2, FA_63_0, FA_63_1, FA_63_2, FA_63_3, FA_80_0, FA_80_1, FA_80_2, FA_85_0, FA_85_1, FA_85_2, LEN_24, LEN_25, LEN_30, LEN_33, LEN_58, LEN_82, LEN_134]
    rw [decide_eq_true (show ((([] : List UInt8).length : Nat) : Int) = 0 from rfl)]
    simp only [xIf_true]
    exact runsG hgl hk02
  simp only [Option.isSome_none, xIf_false]
  have hbb := gramPut_bound hg
  have hbb2 : fs1.length * 16711936 ≤ 6 * 16711936 := Nat.mul_le_mul_right _ hl1
  have hgp := gramGet_put hs1 hg
  refine getS (hf1.kept0 hk2) hs1 (by omega) hb2 (by omega) fun gv rg gs er w3 hgv hgr hgb hk3 hres => ?_
  rw [hgp] at hres
  obtain ⟨rfl, rfl⟩ : er = none ∧ vs1 = gs := by
    rcases hres with ⟨h1, h2⟩ | ⟨_, _, _, _, h2, _⟩
    · cases h2; exact ⟨h1, rfl⟩
    · cases h2
  have hk03 := hk02.then hk3 (by simp)
  have hk13 := hk2.then hk3 (by simp)
  obtain ⟨ba, bc, rfl, hbc, hbr⟩ := hb2
  have hb2 : SlT w2 encB (.slice ba b.length bc) b := ⟨ba, bc, rfl, hbc, hbr⟩
  obtain ⟨le1, le0⟩ := gramPut_least hg
  simp only [xP_ex0, xP_ex1]
  refine xJoin_of (fun ls w' => ls = [.bool false] ∧ Kept [] w3 w') ?_ ?_
  · refine optV_neq.2 ?_
    simp only [Option.isSome_none, xIf_false]
    refine rowSame hgv hgr (hv1.kept0 hk13) (hr1.kept0 hk13) (by omega) hvs1 fun w4 hk4 => ?_
    simp only [decide_true, xP_not, Bool.not_true, xIf_false]
    try simp only [xP_nil, xP_pick, xP_func, xP_not, xP_add, xP_sub, xP_mul, xP_lss, xP_leq, xP_gtr, xP_geq, xP_max2, xP_min2, xR_eql, xR_neq, Nat.zero_add, Nat.add_zero, Nat.reduceAdd, List.getD_cons_zero, List.getD_cons_succ, xIf_true, xIf_false, FA_23_0, FA_23_1, FA_23_2, FA_23_3, FA_23_4, FA_32_0, FA_32_1, FA_32_2, FA_63_0, FA_63_1, FA_63_2, FA_63_3, FA_80_0, FA_80_1, FA_80_2, FA_85_0, FA_85_1, FA_85_2, LEN_24, LEN_25, LEN_30, LEN_33, LEN_58, LEN_82, LEN_134]
    refine leastS ((hf1.kept0 hk13).kept0 hk4) hs1 (by omega) fun w5 hk5 => ?_
    simp only [xP_nil, xP_pick, xP_func, xP_not, xP_add, xP_sub, xP_mul, xP_lss, xP_leq, xP_gtr, xP_geq, xP_max2, xP_min2, xR_eql, xR_neq, Nat.zero_add, Nat.add_zero, Nat.reduceAdd, List.getD_cons_zero, List.getD_cons_succ, xIf_true, xIf_false, FA_23_0, FA_23_1, FA_23_2, FA_23_3, FA_23_4, FA_32_0, FA_32_1, FA_32_2, FA_63_0, FA_63_1, FA_63_2, FA_63_3, FA_80_0, FA_80_1, FA_80_2, FA_85_0, FA_85_1, FA_85_2, LEN_24, LEN_25, LEN_30, LEN_33, LEN_58, LEN_82, LEN_134]
    rw [decide_eq_false (by omega)]
    simp only [xIf_false]
    refine leastS (((hf1.kept0 hk13).kept0 hk4).kept0 hk5) hs1 (by omega) fun w6 hk6 => ?_
    simp only [xP_nil, xP_pick, xP_func, xP_not, xP_add, xP_sub, xP_mul, xP_lss, xP_leq, xP_gtr, xP_geq, xP_max2, xP_min2, xR_eql, xR_neq, Nat.zero_add, Nat.add_zero, Nat.reduceAdd, List.getD_cons_zero, List.getD_cons_succ, xIf_true, xIf_false, FA_23_0, FA_23_1, FA_23_2, FA_23_3, FA_23_4, FA_32_0, FA_32_1, FA_32_2, FA_63_0, FA_63_1, FA_63_2, FA_63_3, FA_80_0, FA_80_1, FA_80_2, FA_85_0, FA_85_1, FA_85_2, LEN_24, LEN_25, LEN_30, LEN_33, LEN_58, LEN_82, LEN_134]
    rw [decide_eq_false (by omega)]
    exact ⟨rfl, (hk4.then hk5 (by simp)).then hk6 (by simp)⟩
  rintro _ _ w4 ⟨rfl, hk4⟩
  have hk04 := hk03.then hk4 (by simp)
  have hk14 := hk13.then hk4 (by simp)
  have hk24 := hk3.then hk4 (by simp)
  simp only [List.getD_cons_zero, xIf_false]
  refine copyS (hb2.kept0 hk24) (by omega) fun u5 w5 F5 ho5 hF5 hk5 => ?_
  refine newBytes (l := [c]) rfl (by omega) (by omega) rfl fun cv w6 F6 ho6 hF6 hk6 => ?_
  have ho5' : Own w6 5 1 u5 b.length (b.flatMap encB) F5 := ho5.kept hk6 (by simp)
  refine xE_appendSrc EL_25 ho5' (src_slT (l := [c]) (ownBytes (l := [c]) ho6)) (by simp; omega) (by unfold maxLen; simp; omega) fun lv w7 F7 ho7 hk7 hF7 _ => ?_
  have hz5 := hk5.size
  have hk47 : Kept [] w4 w7 := (hk5.then hk6 (by simp)).then hk7 (fun g hg => .inr (hF5 g hg))
  have hlv : SlT w7 encB lv (b ++ [c]) := by
    refine ownBytes (F := F7) ?_
    have := ho7
    rw [← List.flatMap_append] at this
    rw [List.length_append]
    exact this
  have hk17 := hk14.then hk47 (by simp)
  have hk07 := hk04.then hk47 (by simp)
  have hk27 := hk24.then hk47 (by simp)
  refine getS (hf1.kept0 hk17) hs1 (by omega) hlv (by rw [List.length_append]; simp; omega) fun gv2 rg2 gs2 er2 w8 _ _ _ hk8 hres2 => ?_
  rw [gramGet_tail hs1 hg (r := [c]) (by simp)] at hres2
  obtain rfl : er2 = some (.flt opGet b.length (.no 4)) := by
    rcases hres2 with ⟨_, h2⟩ | ⟨_, _, _, h1, h2, _⟩
    · cases h2
    · cases h2; exact h1
  have hk08 := hk07.then hk8 (by simp)
  have hk18 := hk17.then hk8 (by simp)
  have hk28 := hk27.then hk8 (by simp)
  simp only [xP_ex0, xP_ex1]
  refine xJoin_of (fun ls w' => Kept [] w8 w') ?_ ?_
  · try simp only [xP_nil, xP_pick, xP_func, xP_not, xP_add, xP_sub, xP_mul, xP_lss, xP_leq, xP_gtr, xP_geq, xP_max2, xP_min2, xR_eql, xR_neq, Nat.zero_add, Nat.add_zero, Nat.reduceAdd, List.getD_cons_zero, List.getD_cons_succ, xIf_true, xIf_false, FA_23_0, FA_23_1, FA_23_2, FA_23_3, FA_23_4, FA_32_0, FA_32_1, FA_32_2, FA_63_0, FA_63_1, FA_63_2, FA_63_3, FA_80_0, FA_80_1, FA_80_2, FA_85_0, FA_85_1, FA_85_2, LEN_24, LEN_25, LEN_30, LEN_33, LEN_58, LEN_82, LEN_134]
    refine xE_call CF_26 (within_ok (by omega) (by omega) (by omega)) ?_
    rintro _ _ ⟨rfl, rfl⟩
    obtain ⟨wb1, wb2⟩ := within_bd (n := n) (lo := 0) (hi := (b.length : Int)) (by omega)
    obtain ⟨i, hi⟩ := Int.eq_ofNat_of_zero_le wb1
    rw [hi] at wb2 ⊢
    simp only [xP_nil, xP_pick, xP_func, xP_not, xP_add, xP_sub, xP_mul, xP_lss, xP_leq, xP_gtr, xP_geq, xP_max2, xP_min2, xR_eql, xR_neq, Nat.zero_add, Nat.add_zero, Nat.reduceAdd, List.getD_cons_zero, List.getD_cons_succ, xIf_true, xIf_false, FA_23_0, FA_23_1, FA_23_2, FA_23_3, FA_23_4, FA_32_0, FA_32_1, FA_32_2, FA_63_0, FA_63_1, FA_63_2, FA_63_3, FA_80_0, FA_80_1, FA_80_2, FA_85_0, FA_85_1, FA_85_2, LEN_24, LEN_25, LEN_30, LEN_33, LEN_58, LEN_82, LEN_134, xIf_dec]
    refine ⟨fun hlt => ?_, fun _ => Kept.refl _ _⟩
    refine (xP_upto SL_25 SZ_5 (by omega) (by omega)).2 ?_
    have hcut : SlT w8 encB (.slice (if bc = 0 then ba else ba.map (·.add (0 * 1))) (i : Int).toNat bc) (b.take (i : Int).toNat) := SlT.upto encB_len (hb2.kept0 hk28) (by omega)
    rw [Int.toNat_natCast] at hcut ⊢
    refine getS (hf1.kept0 hk18) hs1 (by omega) hcut (by rw [List.length_take]; omega) fun gv3 rg3 gs3 er3 w9 _ _ _ hk9 hres3 => ?_
    obtain ⟨j, hj⟩ := gramGet_cut hs1 hg (k := i) (by omega)
    rw [hj] at hres3
    obtain rfl : er3 = some (.flt opGet j (.no 3)) := by
      rcases hres3 with ⟨_, h2⟩ | ⟨_, _, _, h1, h2, _⟩
      · cases h2
      · cases h2; exact h1
    simp only [xP_ex0, xP_ex1]
    refine kindFl (hgl.kept0 (hk08.then hk9 (by simp))) fun w10 hk10 => ?_
    simp only [xR_neq, show decide ((3 : Int) ≠ 3) = false from rfl, xIf_false]
    exact hk9.then hk10 (by simp)
  intro _ _ w9 hk9
  have hk09 := hk08.then hk9 (by simp)
  refine kindFl (hgl.kept0 hk09) fun w10 hk10 => ?_
  simp only [xR_eql, decide_true, xIf_true]
  exact runsG hgl (hk09.then hk10 (by simp))

/-! ## GramOnly -/
theorem gonly_ok {fs : List GFd} {b : List UInt8} {fv bv : Value} {w : World} (hgl : Glob w) (hf : SlT w encF fv fs) (hs : small fs) (hb : SlT w encB bv b) :
    Gives Tryd.prog 7 #[fv, bv] w fun u w' => u = .bool true ∧ Kept [] w w' := by
  refine C_stavelaw2_GramOnly ?_
  unfold S_stavelaw2_GramOnly
  refine fewS hf hs (SlT.nil_ _ _) (IsRow.nil _) fun f1 v1 fs1 vs1 raws1 w1 _ _ hf1 hs1 hl1 hv1 hr1 hvl1 hvs1 hk1 => ?_
  simp only [xP_ex0, xP_ex1]
  obtain ⟨ba, bc, rfl, hbc, hbr⟩ := hb
  have hb : SlT w encB (.slice ba b.length bc) b := ⟨ba, bc, rfl, hbc, hbr⟩
  try simp only [xP_nil, xP_pick, xP_func, xP_not, xP_add, xP_sub, xP_mul, xP_lss, xP_leq, xP_gtr, xP_geq, xP_max2, xP_min2, xR_eql, xR_neq, Nat.zero_add, Nat.add_zero, Nat.reduceAdd, List.getD_cons_zero, List.getD_cons_succ, xIf_true, xIf_false, FA_23_0, FA_23_1, FA_23_2, FA_23_3, FA_23_4, FA_32_0, FA_32_1, FA_32_2, FA_63_0, FA_63_1, FA_63_2, FA_63_3, FA_80_0, FA_80_1, FA_80_2, FA_85_0, FA_85_1, FA_85_2, LEN_24, LEN_25, LEN_30, LEN_33, LEN_58, LEN_82, LEN_134]
  refine (xP_upto SL_25 SZ_5 (by omega) (by omega)).2 ?_
  have hmin : (min ((b.length : Nat) : Int) 60).toNat ≤ b.length := by omega
  have hcut : SlT w1 encB (.slice (if bc = 0 then ba else ba.map (·.add (0 * 1))) (min ((b.length : Nat) : Int) 60).toNat bc) (b.take (min ((b.length : Nat) : Int) 60).toNat) := SlT.upto encB_len (hb.kept0 hk1) hmin
  have hm60 : (min ((b.length : Nat) : Int) 60).toNat ≤ 60 := by omega
  generalize (if bc = 0 then ba else ba.map (·.add (0 * 1))) = ca at *
  generalize (min ((b.length : Nat) : Int) 60).toNat = m at *
  obtain ⟨b1, hcut, hlen⟩ : ∃ b1, SlT w1 encB (.slice ca m bc) b1 ∧ b1.length = m := ⟨_, hcut, by rw [List.length_take]; omega⟩
  subst hlen
  refine getS hf1 hs1 (by omega) hcut (by omega) fun gv rg gs er w2 hgv hgr hgb hk2 hres => ?_
  have hk02 := hk1.then hk2 (by simp)
  obtain ⟨ga, gc, rfl, hgc, hgx⟩ := hgv
  have hgv : SlT w2 encV (.slice ga rg.length gc) rg := ⟨ga, gc, rfl, hgc, hgx⟩
  simp only [xP_ex0, xP_ex1]
  refine optV_neq.2 ?_
  rcases hres with ⟨rfl, hg⟩ | ⟨i, k, hk0, rfl, hg, rfl⟩
  rotate_left
  · simp only [Option.isSome_some, xIf_true]
    have : rg.length = 0 := hgr.1
    rw [this]
    try simp only [xP_nil, xP_pick, xP_func, xP_not, xP_add, xP_sub, xP_mul, xP_lss, xP_leq, xP_gtr, xP_geq, xP_max2, xP_min2, xR_eql, xR_neq, Nat.zero_add, Nat.add_zero, Nat.reduceAdd, List.getD_cons_zero, List.getD_cons_succ, xIf_true, xIf_false, FA_23_0, FA_23_1, FA_23_2, FA_23_3, FA_23_4, FA_32_0, FA_32_1, FA_32_2, FA_63_0, FA_63_1, FA_63_2, FA_63_3, FA_80_0, FA_80_1, FA_80_2, FA_85_0, FA_85_1, FA_85_2, LEN_24, LEN_25, LEN_30, LEN_33, LEN_58, LEN_82, LEN_134]
    rw [decide_eq_true (show ((0 : Nat) : Int) = 0 from rfl)]
    simp only [xIf_true]
    exact runsG hgl hk02
  simp only [Option.isSome_none, xIf_false]
  have hp := gramPut_get hg
  have hlen2 := gramGet_len hg
  have hrl := hgr.1
  obtain ⟨le1, le0⟩ := gramPut_least hp
  refine putS (hf1.kept0 hk2) hs1 (by omega) hgv hgr (by omega) hgb.2 fun pv p er w3 hp3 hk3 hres => ?_
  rw [hp] at hres
  obtain ⟨rfl, rfl⟩ : er = none ∧ b1 = p := by
    rcases hres with ⟨h1, h2⟩ | ⟨_, _, _, _, h2, _⟩
    · cases h2; exact ⟨h1, rfl⟩
    · cases h2
  have hk03 := hk02.then hk3 (by simp)
  simp only [xP_ex0, xP_ex1]
  refine optV_eql.2 ?_
  simp only [Option.isNone_none, xIf_true]
  refine bytesS hp3 ((hcut.kept0 hk2).kept0 hk3) (by omega) fun w4 hk4 => ?_
  have hk04 := hk03.then hk4 (by simp)
  have hk14 := (hk2.then hk3 (by simp)).then hk4 (by simp)
  obtain ⟨fa, fc, rfl, hfc, hfr⟩ := hf1
  have hf1 : SlT w1 encF (.slice fa fs1.length fc) fs1 := ⟨fa, fc, rfl, hfc, hfr⟩
  simp only [decide_true, xIf_true]
  try simp only [xP_nil, xP_pick, xP_func, xP_not, xP_add, xP_sub, xP_mul, xP_lss, xP_leq, xP_gtr, xP_geq, xP_max2, xP_min2, xR_eql, xR_neq, Nat.zero_add, Nat.add_zero, Nat.reduceAdd, List.getD_cons_zero, List.getD_cons_succ, xIf_true, xIf_false, FA_23_0, FA_23_1, FA_23_2, FA_23_3, FA_23_4, FA_32_0, FA_32_1, FA_32_2, FA_63_0, FA_63_1, FA_63_2, FA_63_3, FA_80_0, FA_80_1, FA_80_2, FA_85_0, FA_85_1, FA_85_2, LEN_24, LEN_25, LEN_30, LEN_33, LEN_58, LEN_82, LEN_134]
  rw [decide_eq_true (show ((rg.length : Nat) : Int) = (fs1.length : Nat) by omega)]
  simp only [xIf_true]
  refine leastS (hf1.kept0 hk14) hs1 (by omega) fun w5 hk5 => ?_
  try simp only [xP_nil, xP_pick, xP_func, xP_not, xP_add, xP_sub, xP_mul, xP_lss, xP_leq, xP_gtr, xP_geq, xP_max2, xP_min2, xR_eql, xR_neq, Nat.zero_add, Nat.add_zero, Nat.reduceAdd, List.getD_cons_zero, List.getD_cons_succ, xIf_true, xIf_false, FA_23_0, FA_23_1, FA_23_2, FA_23_3, FA_23_4, FA_32_0, FA_32_1, FA_32_2, FA_63_0, FA_63_1, FA_63_2, FA_63_3, FA_80_0, FA_80_1, FA_80_2, FA_85_0, FA_85_1, FA_85_2, LEN_24, LEN_25, LEN_30, LEN_33, LEN_58, LEN_82, LEN_134]
  rw [decide_eq_true (by omega)]
  simp only [xIf_true]
  exact runsG hgl (hk04.then hk5 (by simp))
end Go.Proofs.YtclojjiiiejfpaaDoor
