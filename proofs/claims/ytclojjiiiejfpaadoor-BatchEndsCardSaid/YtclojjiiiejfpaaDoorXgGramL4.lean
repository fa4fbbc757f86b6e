import Derived.Test.YtclojjiiiejfpaaDoorXgGramL3
import Derived.Test.YtclojjiiiejfpaaDoorXJoin
namespace Go.Proofs.YtclojjiiiejfpaaDoor
set_option linter.unusedSimpArgs false
set_option linter.unusedVariables false
set_option maxRecDepth 100000
attribute [local irreducible] Go.X.xE
open Go Go.X Go.RowKit

theorem IsRow.one {w : World} {raws : List RawV} {vs : List GVl} (h : IsRow w raws vs) : ∀ x ∈ raws, ∀ u ∈ encV x, u.oneCell' = true := by
  intro x hx
  obtain ⟨i, hi, rfl⟩ := List.mem_iff_getElem.1 hx
  have hi' : i < vs.length := by rw [← h.1]; exact hi
  have hv := h.2 i raws[i] vs[i] (List.getElem?_eq_getElem hi) (List.getElem?_eq_getElem hi')
  obtain ⟨a, c, e, _⟩ := hv.2.2
  exact encV_one (by rw [e]; rfl)
theorem IsRow.append {w : World} {r1 r2 : List RawV} {v1 v2 : List GVl} (h1 : IsRow w r1 v1) (h2 : IsRow w r2 v2) : IsRow w (r1 ++ r2) (v1 ++ v2) := by
  refine ⟨by rw [List.length_append, List.length_append, h1.1, h2.1], fun i x y hx hy => ?_⟩
  rcases Nat.lt_or_ge i r1.length with h | h
  · rw [List.getElem?_append_left h] at hx
    rw [List.getElem?_append_left (by rw [← h1.1]; exact h)] at hy
    exact h1.2 i x y hx hy
  · rw [List.getElem?_append_right h] at hx
    rw [List.getElem?_append_right (by rw [← h1.1]; exact h), ← h1.1] at hy
    exact h2.2 _ x y hx hy

/-! ## GramJoins -/
theorem gjoins_ok {fs gs : List GFd} {raws sraws : List RawV} {vs us : List GVl} {fv gv vv uv : Value} {w : World} (hgl : Glob w) (hf : SlT w encF fv fs) (hs : small fs) (hf' : SlT w encF gv gs) (hs' : small gs) (hv : SlT w encV vv raws) (hr : IsRow w raws vs) (hv' : SlT w encV uv sraws) (hr' : IsRow w sraws us) :
    Gives Tryd.prog 9 #[fv, gv, vv, uv] w fun u w' => u = .bool true ∧ Kept [] w w' := by
  refine C_stavelaw2_GramJoins ?_
  unfold S_stavelaw2_GramJoins
  refine fewS hf hs hv hr fun f1 v1 fs1 vs1 raws1 w1 _ _ hf1 hs1 hl1 hv1 hr1 hvl1 hvs1 hk1 => ?_
  simp only [xP_ex0, xP_ex1]
  refine fewS (hf'.kept0 hk1) hs' (hv'.kept0 hk1) (hr'.kept0 hk1) fun f2 v2 fs2 vs2 raws2 w2 _ _ hf2 hs2 hl2 hv2 hr2 hvl2 hvs2 hk2 => ?_
  simp only [xP_ex0, xP_ex1]
  have hk02 := hk1.then hk2 (by simp)
  have hf1 := hf1.kept0 hk2
  have hv1 := hv1.kept0 hk2
  have hr1 := hr1.kept0 hk2
  have hrl1 := hr1.1
  have hrl2 := hr2.1
  obtain ⟨f1a, f1c, rfl, q1, q2⟩ := hf1
  have hf1 : SlT w2 encF (.slice f1a fs1.length f1c) fs1 := ⟨f1a, f1c, rfl, q1, q2⟩
  obtain ⟨v1a, v1c, rfl, q1, q2⟩ := hv1
  have hv1 : SlT w2 encV (.slice v1a raws1.length v1c) raws1 := ⟨v1a, v1c, rfl, q1, q2⟩
  refine putS hf1 hs1 (by omega) hv1 hr1 (by omega) hvs1 fun pv p e w3 hp3 hk3 hres1 => ?_
  simp only [xP_ex0, xP_ex1]
  refine putS (hf2.kept0 hk3) hs2 (by omega) (hv2.kept0 hk3) (hr2.kept0 hk3) (by omega) hvs2 fun qv q f w4 hq4 hk4 hres2 => ?_
  simp only [xP_ex0, xP_ex1]
  have hk24 := hk3.then hk4 (by simp)
  refine xE_join0 EL_24 encF_len (fun x _ => encF_cells x) (fun x _ => encF_cells x) (hf1.kept0 hk24) (hf2.kept0 hk24) (by omega) (by omega) fun fv5 w5 F5 ho5 hF5 hk5 => ?_
  have hk25 := hk24.then hk5 (by simp)
  refine xE_join0 EL_33 encV_len hr1.one hr2.one (hv1.kept0 hk25) (hv2.kept0 hk25) (by omega) (by omega) fun vv6 w6 F6 ho6 hF6 hk6 => ?_
  have hk26 := hk25.then hk6 (by simp)
  have hfj : SlT w6 encF fv5 (fs1 ++ fs2) := (ho5.slT encF_len (by omega)).kept0 hk6
  have hvj : SlT w6 encV vv6 (raws1 ++ raws2) := ho6.slT encV_len (by omega)
  have hrj : IsRow w6 (raws1 ++ raws2) (vs1 ++ vs2) := (hr1.kept0 hk26).append (hr2.kept0 hk26)
  have hsj : small (fs1 ++ fs2) := fun x hx => (List.mem_append.1 hx).elim (hs1 x) (hs2 x)
  have hvsj : ∀ y ∈ vs1 ++ vs2, y.l.length ≤ 9223372036854775806 := fun x hx => (List.mem_append.1 hx).elim (hvs1 x) (hvs2 x)
  have hfl : (fs1 ++ fs2).length ≤ 12 := by rw [List.length_append]; omega
  have hvl : (vs1 ++ vs2).length ≤ 12 := by rw [List.length_append]; omega
  refine putS hfj hsj (by omega) hvj hrj (by omega) hvsj fun bv b g w7 hb7 hk7 hres3 => ?_
  have hk27 := hk26.then hk7 (by simp)
  have hk07 := hk02.then hk27 (by simp)
  simp only [xP_ex0, xP_ex1]
  refine xJoin_of (fun ls w' => ls = [.bool (e.isSome || f.isSome)] ∧ w7 = w') ?_ ?_
  · refine optV_neq.2 ?_
    cases e with
    | some e => simp only [Option.isSome_some, xIf_true]; exact ⟨rfl, trivial⟩
    | none =>
      simp only [Option.isSome_none, xIf_false]
      refine optV_neq.2 ?_
      exact ⟨rfl, trivial⟩
  rintro _ _ _ ⟨rfl, rfl⟩
  simp only [List.getD_cons_zero]
  cases hbad : (e.isSome || f.isSome) with
  | true =>
    simp only [xIf_true]
    refine optV_neq.2 ?_
    cases g with
    | some g => 
      simp only [Option.isSome_some, xIf_true]
      exact runsG hgl hk07
    | none =>
      simp only [Option.isSome_none, xIf_false]
      try simp only [xP_nil, xP_pick, xP_func, xP_not, xP_add, xP_sub, xP_mul, xP_lss, xP_leq, xP_gtr, xP_geq, xP_max2, xP_min2, xR_eql, xR_neq, Nat.zero_add, Nat.add_zero, Nat.reduceAdd, List.getD_cons_zero, List.getD_cons_succ, xIf_true, xIf_false, FA_23_0, FA_23_1, FA_23_2, FA_23_3, FA_23_4, FA_32_0, FA_32_1, FA_32_2, FA_63_0, FA_63_1, FA_63_2, FA_63_3, FA_80_0, FA_80_1, FA_80_2, FA_85_0, FA_85_1, FA_85_2, LEN_24, LEN_25, LEN_30, LEN_33, LEN_58, LEN_82, LEN_134]
      by_cases hl : vs1.length = fs1.length
      · exfalso
        have hj : gramPut (fs1 ++ fs2) (vs1 ++ vs2) = .ok b := by
          rcases hres3 with ⟨_, h⟩ | ⟨_, _, _, h, _⟩
          · exact h
          · cases h
        obtain ⟨⟨b1, hb1⟩, ⟨b2, hb2⟩⟩ := gramPut_split hl hj
        have he : e = none := by
          rcases hres1 with ⟨h, _⟩ | ⟨_, _, _, _, h, _⟩
          · exact h
          · rw [hb1] at h; cases h
        have hf0 : f = none := by
          rcases hres2 with ⟨h, _⟩ | ⟨_, _, _, _, h, _⟩
          · exact h
          · rw [hb2] at h; cases h
        rw [he, hf0] at hbad
        cases hbad
      · rw [decide_eq_true (show ((raws1.length : Nat) : Int) ≠ (fs1.length : Nat) by omega)]
        simp only [xIf_true]
        exact runsG hgl hk07
  | false =>
    have he : e = none := by cases e with | none => rfl | some e => cases hbad
    have hf0 : f = none := by cases f with | none => rfl | some f => subst he; cases hbad
    subst he; subst hf0
    have hg1 : gramPut fs1 vs1 = .ok p := by
      rcases hres1 with ⟨_, h⟩ | ⟨_, _, _, h, _⟩
      · exact h
      · cases h
    have hg2 : gramPut fs2 vs2 = .ok q := by
      rcases hres2 with ⟨_, h⟩ | ⟨_, _, _, h, _⟩
      · exact h
      · cases h
    have hgj := gramPut_append hg1 hg2
    rw [hgj] at hres3
    obtain ⟨rfl, rfl⟩ : g = none ∧ p ++ q = b := by
      rcases hres3 with ⟨h1, h2⟩ | ⟨_, _, _, _, h2, _⟩
      · cases h2; exact ⟨h1, rfl⟩
      · cases h2
    have hbb := gramPut_bound hg1
    have hbb2 : fs1.length * 16711936 ≤ 6 * 16711936 := Nat.mul_le_mul_right _ hl1
    have hcb := gramPut_bound hg2
    have hcb2 : fs2.length * 16711936 ≤ 6 * 16711936 := Nat.mul_le_mul_right _ hl2
    simp only [xIf_false]
    refine optV_eql.2 ?_
    simp only [Option.isNone_none, xIf_true]
    have hk37 := ((hk4.then hk5 (by simp)).then hk6 (by simp)).then hk7 (by simp)
    have hk47 := (hk5.then hk6 (by simp)).then hk7 (by simp)
    refine xE_join0 EL_25 encB_len (fun x _ => encB_one x) (fun x _ => encB_one x) (hp3.kept0 hk37) (hq4.kept0 hk47) (by omega) (by omega) fun cv w8 F8 ho8 hF8 hk8 => ?_
    have hk28 := hk27.then hk8 (by simp)
    refine bytesS (hb7.kept0 hk8) (ho8.slT encB_len (by omega)) (by rw [List.length_append]; omega) fun w9 hk9 => ?_
    have hk29 := hk28.then hk9 (by simp)
    simp only [decide_true, xIf_true]
    refine xE_join0 EL_24 encF_len (fun x _ => encF_cells x) (fun x _ => encF_cells x) (hf1.kept0 hk29) (hf2.kept0 hk29) (by omega) (by omega) fun dv w10 F10 ho10 hF10 hk10 => ?_
    have hk210 := hk29.then hk10 (by simp)
    refine leastS (ho10.slT encF_len (by omega)) hsj (by omega) fun w11 hk11 => ?_
    have hk211 := hk210.then hk11 (by simp)
    refine leastS (hf1.kept0 hk211) hs1 (by omega) fun w12 hk12 => ?_
    have hk212 := hk211.then hk12 (by simp)
    refine leastS (hf2.kept0 hk212) hs2 (by omega) fun w13 hk13 => ?_
    have hk213 := hk212.then hk13 (by simp)
    obtain ⟨le1, le0⟩ := gramPut_least hg1
    obtain ⟨me1, me0⟩ := gramPut_least hg2
    rw [gramLeast_append hg1 hg2]
    refine xP_add.2 ?_
    rw [wrap64 (by omega) (by omega)]
    simp only [xR_eql, decide_true, xIf_true]
    exact runsG hgl (hk02.then hk213 (by simp))
end Go.Proofs.YtclojjiiiejfpaaDoor
