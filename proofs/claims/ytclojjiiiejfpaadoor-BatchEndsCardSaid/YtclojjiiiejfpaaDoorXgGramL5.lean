import Derived.Test.YtclojjiiiejfpaaDoorXgGramL4
namespace Go.Proofs.YtclojjiiiejfpaaDoor
set_option linter.unusedSimpArgs false
set_option linter.unusedVariables false
set_option maxRecDepth 100000
attribute [local irreducible] Go.X.xE
open Go Go.X Go.RowKit

theorem rowInt : RowB Tryd.prog 58 3 1 encI (Value.int .i64) := RowB.one SL_58 SZ_3 ONE_3
theorem newInts {l : List Int} {n : Nat} {parts : Array (Nat × Value)} {w : World} {K : Value → World → Prop} (hn : l.length = n) (hpos : 0 < n) (hs : n ≤ 1000) (hp : parts.toList = ((l.map (Value.int .i64)).zipIdx).map fun p => (p.2, p.1))
    (k : ∀ u w', SlT w' encI u l → Kept [] w w' → K u w') : xE Tryd.prog (sBuildSlice 58 n parts) w K := by
  refine xE_buildSlice EL_58 (l.map (Value.int .i64)) hp (by simp [hn]) (by intro v hv; obtain ⟨y, -, rfl⟩ := List.mem_map.1 hv; rfl) hpos (by omega) fun w' hb hk hz => ?_
  have hcells : (l.map (Value.int .i64)).flatMap (fun v => v.cells.toList) = l.flatMap encI := by rw [List.flatMap_map]; rfl
  rw [hcells] at hb
  have := slT_blk hb
  rw [hn] at this
  exact k _ _ this hk
theorem oneF {f : GFd} {w : World} {K : Value → World → Prop} (k : ∀ u w', SlT w' encF u [f] → Kept [] w w' → K u w') : xE Tryd.prog (sBuildSlice 24 1 #[(0, vF f)]) w K :=
  newFields (fs := [f]) rfl (by omega) (by omega) rfl k
theorem oneV {x : RawV} {w : World} {K : Value → World → Prop} (k : ∀ u w', SlT w' encV u [x] → Kept [] w w' → K u w') : xE Tryd.prog (sBuildSlice 33 1 #[(0, vV x)]) w K :=
  newVals (raws := [x]) rfl (by omega) (by omega) rfl k
theorem gramPut_one {f : GFd} {v : GVl} (h : f.right = true) : gramPut [f] [v] = if f.fits v then .ok (f.written v) else .error (0, 2) := by
  simp [gramPut, putRest, h, List.findIdx_cons]
  split
  · simp [Except.map]
  · rfl
theorem gramPut_two {f g : GFd} {v u : GVl} (h : f.right = true) (h' : g.right = false) : gramPut [f, g] [v, u] = .error (1, 1) := by
  simp [gramPut, h, h', List.findIdx_cons]
theorem isRow_one {w : World} {x : RawV} {v : GVl} (h : IsV w x v) : IsRow w [x] [v] := (IsRow.nil w).snoc h
theorem isV_n {w : World} {n : Int} : IsV w ⟨n, strEmpty, .slice none 0 0⟩ ⟨n, strEmpty, []⟩ := ⟨rfl, rfl, SlT.nil_ _ _⟩
theorem size4 {j : Nat} (h : j < 4) : (([1, 2, 4, 8] : List Int)[j]'(by simpa using h) = 1 ∨ ([1, 2, 4, 8] : List Int)[j]'(by simpa using h) = 2 ∨ ([1, 2, 4, 8] : List Int)[j]'(by simpa using h) = 4 ∨ ([1, 2, 4, 8] : List Int)[j]'(by simpa using h) = 8) := by
  rcases j with _ | _ | _ | _ | j
  · exact .inl rfl
  · exact .inr (.inl rfl)
  · exact .inr (.inr (.inl rfl))
  · exact .inr (.inr (.inr rfl))
  · omega
theorem ends_right {S a b : Int} (hS : S = 1 ∨ S = 2 ∨ S = 4 ∨ S = 8) (h0 : 0 ≤ a) (hab : a ≤ b) (hb : b ≤ 200) : (⟨1, S, a, b, 0⟩ : GFd).right = true := by
  have e0 : (decide (a < 0) || decide (b < a)) = false := by simp; omega
  have e1 : ∀ n : Nat, n ≥ 8 → b / 2 ^ n = 0 := fun n hn => Int.ediv_eq_zero_of_lt (by omega) (by
    have : (2 : Int) ^ 8 ≤ 2 ^ n := by exact_mod_cast Nat.pow_le_pow_right (by omega) hn
    omega)
  unfold GFd.right
  rcases hS with rfl | rfl | rfl | rfl
  · simp only [e0, e1 _ (show (8 * (1 : Int)).toNat ≥ 8 by decide)]; rfl
  · simp only [e0, e1 _ (show (8 * (2 : Int)).toNat ≥ 8 by decide)]; rfl
  · simp only [e0, e1 _ (show (8 * (4 : Int)).toNat ≥ 8 by decide)]; rfl
  · simp only [e0, e1 _ (show (8 * (8 : Int)).toNat ≥ 8 by decide)]; rfl
theorem lowB_head {n : Int} {S : Nat} (h0 : 0 ≤ n) (h1 : n ≤ 255) (hS : 0 < S) : ∃ (hl : 0 < (lowB n S).length), (((lowB n S)[0]).toNat : Int) = n := by
  obtain ⟨k, rfl⟩ : ∃ k, S = k + 1 := ⟨S - 1, by omega⟩
  rw [lowB_cons]
  refine ⟨by simp, ?_⟩
  rw [List.getElem_cons_zero, UInt8.toNat_ofNat']
  omega

/-! ## GramEnds -/
theorem gends_ok {size lo hi how : Int} {w : World} (hgl : Glob w) :
    Gives Tryd.prog 8 #[.int .i64 size, .int .i64 lo, .int .i64 hi, .int .i64 how] w fun u w' => u = .bool true ∧ Kept [] w w' := by
  refine C_stavelaw2_GramEnds ?_
  unfold S_stavelaw2_GramEnds
  refine newInts (l := [1, 2, 4, 8]) rfl (by omega) (by omega) rfl fun sv w1 hsv hk1 => ?_
  refine xE_call CF_26 (within_ok (by omega) (by omega) (by omega)) ?_
  rintro _ _ ⟨rfl, rfl⟩
  obtain ⟨wj1, wj2⟩ := within_bd (n := size) (lo := 0) (hi := 3) (by omega)
  obtain ⟨j, hj⟩ := Int.eq_ofNat_of_zero_le wj1
  rw [hj] at wj2 ⊢
  refine (rowInt.get hsv (Kept.refl _ _) (i := j) (by show j < 4; omega)).2 ?_
  have hS := size4 (j := j) (by omega)
  generalize ([1, 2, 4, 8] : List Int)[j]'(by show j < 4; omega) = S at *
  refine xE_call CF_26 (within_ok (by omega) (by omega) (by omega)) ?_
  rintro _ _ ⟨rfl, rfl⟩
  obtain ⟨wa1, wa2⟩ := within_bd (n := lo) (lo := 0) (hi := 100) (by omega)
  generalize within lo 0 100 = a at *
  refine xE_call CF_26 (within_ok (by omega) (by omega) (by omega)) ?_
  rintro _ _ ⟨rfl, rfl⟩
  obtain ⟨wc1, wc2⟩ := within_bd (n := hi) (lo := 0) (hi := 100) (by omega)
  generalize within hi 0 100 = c at *
  refine xP_add.2 ?_
  rw [wrap64 (by omega) (by omega)]
  obtain ⟨b, rfl⟩ : ∃ b, c = b - a := ⟨a + c, by omega⟩
  rw [show a + (b - a) = b by omega]
  have hrt := ends_right hS wa1 (show a ≤ b by omega) (by omega)
  refine (xP_build (cells := (encF ⟨1, S, a, b, 0⟩).toArray) (by kernel_rfl)).2 ?_
  have hsm : small [⟨1, S, a, b, 0⟩] := fun f hf => by simp at hf; subst hf; show b ≤ _; omega
  refine newF (f := ⟨1, S, a, b, 0⟩) fun w2 hb2 hk2 => ?_
  have hz2 := hk1.size
  generalize w1.heap.size = V at *
  have hk02 := hk1.then hk2 (by simp)
  refine (ldF0 hb2).2 ?_
  refine xE_call CF_23 (right_ok (by show b ≤ _; omega)) ?_
  rintro _ w3 ⟨rfl, hk3⟩
  rw [hrt]
  have hk03 := hk02.then hk3 (by simp)
  simp only [xP_nil, xP_pick, xP_func, xP_not, xP_add, xP_sub, xP_mul, xP_lss, xP_leq, xP_gtr, xP_geq, xP_max2, xP_min2, xR_eql, xR_neq, Nat.zero_add, Nat.add_zero, Nat.reduceAdd, List.getD_cons_zero, List.getD_cons_succ, xIf_true, xIf_false, FA_23_0, FA_23_1, FA_23_2, FA_23_3, FA_23_4, FA_32_0, FA_32_1, FA_32_2, FA_63_0, FA_63_1, FA_63_2, FA_63_3, FA_80_0, FA_80_1, FA_80_2, FA_85_0, FA_85_1, FA_85_2, LEN_24, LEN_25, LEN_30, LEN_33, LEN_58, LEN_82, LEN_134, Bool.not_true, xIf_false]
  rw [wrap64 (by omega) (by omega), wrap64 (by omega) (by omega)]
  refine newInts (l := [a - 1, a, b, b + 1]) rfl (by omega) (by omega) rfl fun nv w4 hnv hk4 => ?_
  have hk04 := hk03.then hk4 (by simp)
  have hk24 := hk3.then hk4 (by simp)
  obtain ⟨na, nc, rfl, q1, q2⟩ := hnv
  have hnv : SlT w4 encI (.slice na 4 nc) [a - 1, a, b, b + 1] := ⟨na, nc, rfl, q1, q2⟩
  rw [show ([a - 1, a, b, b + 1] : List Int).length = 4 from rfl]
  try simp only [xP_nil, xP_pick, xP_func, xP_not, xP_add, xP_sub, xP_mul, xP_lss, xP_leq, xP_gtr, xP_geq, xP_max2, xP_min2, xR_eql, xR_neq, Nat.zero_add, Nat.add_zero, Nat.reduceAdd, List.getD_cons_zero, List.getD_cons_succ, xIf_true, xIf_false, FA_23_0, FA_23_1, FA_23_2, FA_23_3, FA_23_4, FA_32_0, FA_32_1, FA_32_2, FA_63_0, FA_63_1, FA_63_2, FA_63_3, FA_80_0, FA_80_1, FA_80_2, FA_85_0, FA_85_1, FA_85_2, LEN_24, LEN_25, LEN_30, LEN_33, LEN_58, LEN_82, LEN_134]
  refine xLoop_of (fun ls w' => ∃ i : Nat, ls = [.int .i64 i] ∧ i ≤ 4 ∧ Kept [] w4 w') (fun ls _ => match ls with | [.int _ i] => 4 - i.toNat | _ => 0) ⟨0, rfl, by omega, Kept.refl _ _⟩ ?_
  rintro _ _ w5 ⟨i, rfl, hi, hk5⟩
  have hk05 := hk04.then hk5 (by simp)
  have hk25 := hk24.then hk5 (by simp)
  simp only [xP_nil, xP_pick, xP_func, xP_not, xP_add, xP_sub, xP_mul, xP_lss, xP_leq, xP_gtr, xP_geq, xP_max2, xP_min2, xR_eql, xR_neq, Nat.zero_add, Nat.add_zero, Nat.reduceAdd, List.getD_cons_zero, List.getD_cons_succ, xIf_true, xIf_false, FA_23_0, FA_23_1, FA_23_2, FA_23_3, FA_23_4, FA_32_0, FA_32_1, FA_32_2, FA_63_0, FA_63_1, FA_63_2, FA_63_3, FA_80_0, FA_80_1, FA_80_2, FA_85_0, FA_85_1, FA_85_2, LEN_24, LEN_25, LEN_30, LEN_33, LEN_58, LEN_82, LEN_134, xIf_dec]
  refine ⟨fun hlt => ?_, fun hge => ?_⟩
  · refine (rowInt.get hnv hk5 (i := i) (by show i < 4; omega)).2 ?_
    have hn : ([a - 1, a, b, b + 1] : List Int)[i]'(by show i < 4; omega) ≤ 255 := by
      rcases i with _ | _ | _ | _ | i
      · show a - 1 ≤ 255; omega
      · show a ≤ 255; omega
      · show b ≤ 255; omega
      · show b + 1 ≤ 255; omega
      · omega
    generalize ([a - 1, a, b, b + 1] : List Int)[i]'(by show i < 4; omega) = n at *
    refine (ldF0 (hb2.kept hk25 (by simp))).2 ?_
    refine oneF fun fv w6 hf6 hk6 => ?_
    refine (xP_build buildN).2 ?_
    refine oneV (x := ⟨n, strEmpty, .slice none 0 0⟩) fun vv w7 hv7 hk7 => ?_
    refine putS (vs := [⟨n, strEmpty, []⟩]) (hf6.kept0 hk7) hsm (by simp) hv7 (isRow_one isV_n) (by simp) (by simp) fun pv p er w8 hp8 hk8 hres => ?_
    have hk58 := (hk6.then hk7 (by simp)).then hk8 (by simp)
    have hk48 := hk5.then hk58 (by simp)
    have hk08 := hk04.then hk48 (by simp)
    simp only [xP_ex0, xP_ex1]
    rw [gramPut_one hrt] at hres
    refine xJoin_of (fun ls w' => ls = [.bool (decide (a ≤ n ∧ n ≤ b))] ∧ w8 = w') ?_ ?_
    · simp only [xP_nil, xP_pick, xP_func, xP_not, xP_add, xP_sub, xP_mul, xP_lss, xP_leq, xP_gtr, xP_geq, xP_max2, xP_min2, xR_eql, xR_neq, Nat.zero_add, Nat.add_zero, Nat.reduceAdd, List.getD_cons_zero, List.getD_cons_succ, xIf_true, xIf_false, FA_23_0, FA_23_1, FA_23_2, FA_23_3, FA_23_4, FA_32_0, FA_32_1, FA_32_2, FA_63_0, FA_63_1, FA_63_2, FA_63_3, FA_80_0, FA_80_1, FA_80_2, FA_85_0, FA_85_1, FA_85_2, LEN_24, LEN_25, LEN_30, LEN_33, LEN_58, LEN_82, LEN_134, xIf_dec]
      exact ⟨fun h1 => ⟨by simp [show a ≤ n from h1], trivial⟩, fun h1 => ⟨by simp [show ¬ a ≤ n from h1], trivial⟩⟩
    rintro _ _ _ ⟨rfl, rfl⟩
    simp only [List.getD_cons_zero]
    refine xJoin_of (fun ls w' => ls = [.bool false] ∧ Kept [] w8 w') ?_ ?_
    · refine optV_eql.2 ?_
      refine (xR_neqBool BOOLG).2 ?_
      by_cases hfit : a ≤ n ∧ n ≤ b
      · have hf1 : (⟨1, S, a, b, 0⟩ : GFd).fits ⟨n, strEmpty, []⟩ = true := (GFd.fits_num rfl).2 ⟨hfit.1, hfit.2, rfl, rfl⟩
        rw [hf1, if_pos rfl] at hres
        obtain ⟨rfl, rfl⟩ : er = none ∧ lowB n S.toNat = p := by
          rcases hres with ⟨h1, h2⟩ | ⟨_, _, _, _, h2, _⟩
          · cases h2; exact ⟨h1, rfl⟩
          · cases h2
        rw [decide_eq_true hfit]
        simp only [Option.isNone_none, beq_self_eq_true, Bool.not_true, xIf_false, xIf_true]
        obtain ⟨hl0, hh⟩ := lowB_head (n := n) (S := S.toNat) (by omega) hn (by omega)
        obtain ⟨pa, pc, rfl, r1, r2⟩ := hp8
        have hp8 : SlT w8 encB (.slice pa (lowB n S.toNat).length pc) (lowB n S.toNat) := ⟨pa, pc, rfl, r1, r2⟩
        try simp only [xP_nil, xP_pick, xP_func, xP_not, xP_add, xP_sub, xP_mul, xP_lss, xP_leq, xP_gtr, xP_geq, xP_max2, xP_min2, xR_eql, xR_neq, Nat.zero_add, Nat.add_zero, Nat.reduceAdd, List.getD_cons_zero, List.getD_cons_succ, xIf_true, xIf_false, FA_23_0, FA_23_1, FA_23_2, FA_23_3, FA_23_4, FA_32_0, FA_32_1, FA_32_2, FA_63_0, FA_63_1, FA_63_2, FA_63_3, FA_80_0, FA_80_1, FA_80_2, FA_85_0, FA_85_1, FA_85_2, LEN_24, LEN_25, LEN_30, LEN_33, LEN_58, LEN_82, LEN_134]
        rw [decide_eq_false (show ¬ ((lowB n S.toNat).length : Int) ≠ S by rw [lowB_len]; omega)]
        simp only [xIf_false]
        refine (rowB.get hp8 (Kept.refl _ _) (i := 0) hl0).2 ?_
        refine (xP_conv INT_5 INT_3).2 ?_
        rw [wrap64 (by omega) (by omega), hh]
        simp only [xR_neq, ne_eq, not_true_eq_false, decide_false, xIf_false, xP_not, Bool.not_true]
        exact ⟨trivial, Kept.refl _ _⟩
      · have hf1 : (⟨1, S, a, b, 0⟩ : GFd).fits ⟨n, strEmpty, []⟩ = false := by
          cases h : (⟨1, S, a, b, 0⟩ : GFd).fits ⟨n, strEmpty, []⟩ with
          | false => rfl
          | true => exact absurd ⟨((GFd.fits_num rfl).1 h).1, ((GFd.fits_num rfl).1 h).2.1⟩ hfit
        rw [hf1, if_neg (by decide)] at hres
        obtain rfl : er = some (.flt opPut 0 (.no 2)) := by
          rcases hres with ⟨h1, h2⟩ | ⟨_, _, _, h1, h2, _⟩
          · cases h2
          · cases h2; exact h1
        rw [decide_eq_false hfit]
        simp only [Option.isNone_some, beq_self_eq_true, Bool.not_true, xIf_false, xP_not, Bool.not_false, xIf_true]
        refine kindFl (hgl.kept0 hk08) fun w9 hk9 => ?_
        simp only [xR_neq, ne_eq, not_true_eq_false, decide_false]
        exact ⟨trivial, hk9⟩
    rintro _ _ w9 ⟨rfl, hk9⟩
    simp only [List.getD_cons_zero, xIf_false, xP_nil, xP_pick, xP_func, xP_not, xP_add, xP_sub, xP_mul, xP_lss, xP_leq, xP_gtr, xP_geq, xP_max2, xP_min2, xR_eql, xR_neq, Nat.zero_add, Nat.add_zero, Nat.reduceAdd, List.getD_cons_zero, List.getD_cons_succ, xIf_true, xIf_false, FA_23_0, FA_23_1, FA_23_2, FA_23_3, FA_23_4, FA_32_0, FA_32_1, FA_32_2, FA_63_0, FA_63_1, FA_63_2, FA_63_3, FA_80_0, FA_80_1, FA_80_2, FA_85_0, FA_85_1, FA_85_2, LEN_24, LEN_25, LEN_30, LEN_33, LEN_58, LEN_82, LEN_134]
    rw [wrap64 (by omega) (by omega)]
    exact ⟨⟨i + 1, rfl, by omega, hk48.then hk9 (by simp)⟩, by omega⟩
  refine (ldF0 (hb2.kept hk25 (by simp))).2 ?_
  refine newF (f := ⟨1, S, a, b, 0⟩) fun w6 hb6 hk6 => ?_
  have hz6 := hk25.size
  have hV : V < w2.heap.size := hb2.lt
  generalize w5.heap.size = U at *
  have hVU : V ≠ U := by omega
  have hk26 := hk25.then hk6 (by simp)
  have hb26 := hb2.kept hk26 (by simp)
  have hk06 := hk05.then hk6 (by simp)
  refine xJoin_of (fun ls w' => ∃ g : GFd, g.right = false ∧ g.hi ≤ 9223372036854775807 ∧ Blk w' U 23 (encF g) ∧ Kept [U] w6 w') ?_ ?_
  · refine xE_call CF_26 (within_ok (by omega) (by omega) (by omega)) ?_
    rintro _ _ ⟨rfl, rfl⟩
    obtain ⟨wh1, wh2⟩ := within_bd (n := how) (lo := 0) (hi := 4) (by omega)
    generalize within how 0 4 = h at *
    have e0 : (encF ⟨1, S, a, b, 0⟩).length = 5 := rfl
    simp only [xP_nil, xP_pick, xP_func, xP_not, xP_add, xP_sub, xP_mul, xP_lss, xP_leq, xP_gtr, xP_geq, xP_max2, xP_min2, xR_eql, xR_neq, Nat.zero_add, Nat.add_zero, Nat.reduceAdd, List.getD_cons_zero, List.getD_cons_succ, xIf_true, xIf_false, FA_23_0, FA_23_1, FA_23_2, FA_23_3, FA_23_4, FA_32_0, FA_32_1, FA_32_2, FA_63_0, FA_63_1, FA_63_2, FA_63_3, FA_80_0, FA_80_1, FA_80_2, FA_85_0, FA_85_1, FA_85_2, LEN_24, LEN_25, LEN_30, LEN_33, LEN_58, LEN_82, LEN_134, xIf_dec]
    refine ⟨fun h0 => ?_, fun h0 => ⟨fun h1 => ?_, fun h1 => ⟨fun h2 => ?_, fun h2 => ⟨fun h3 => ?_, fun h3 => ⟨fun h4 => ?_, fun h4 => ?_⟩⟩⟩⟩⟩
    · refine xE_store1 SZ_3 hb6 (by omega) rfl fun w7 hb7 hk7 _ => ?_
      exact ⟨⟨1, 3, a, b, 0⟩, by simp [GFd.right], by show b ≤ _; omega, by simpa [encF] using hb7, hk7⟩
    · refine xE_store1 SZ_3 hb6 (by omega) rfl fun w7 hb7 hk7 _ => ?_
      exact ⟨⟨1, S, b + 1, b, 0⟩, by unfold GFd.right; rw [show (decide (b + 1 < 0) || decide (b < b + 1)) = true by simp; omega]; rfl, by show b ≤ _; omega, by simpa [encF] using hb7, hk7⟩
    · refine xE_store1 SZ_3 hb6 (by omega) rfl fun w7 hb7 hk7 _ => ?_
      exact ⟨⟨0, S, a, b, 0⟩, by simp [GFd.right], by show b ≤ _; omega, by simpa [encF] using hb7, hk7⟩
    · refine xE_store1 SZ_3 hb6 (by omega) rfl fun w7 hb7 hk7 _ => ?_
      exact ⟨⟨1, S, a, b, 1⟩, by simp [GFd.right], by show b ≤ _; omega, by simpa [encF] using hb7, hk7⟩
    · refine xE_store1 SZ_3 hb6 (by omega) rfl fun w7 hb7 hk7 _ => ?_
      try simp only [xP_nil, xP_pick, xP_func, xP_not, xP_add, xP_sub, xP_mul, xP_lss, xP_leq, xP_gtr, xP_geq, xP_max2, xP_min2, xR_eql, xR_neq, Nat.zero_add, Nat.add_zero, Nat.reduceAdd, List.getD_cons_zero, List.getD_cons_succ, xIf_true, xIf_false, FA_23_0, FA_23_1, FA_23_2, FA_23_3, FA_23_4, FA_32_0, FA_32_1, FA_32_2, FA_63_0, FA_63_1, FA_63_2, FA_63_3, FA_80_0, FA_80_1, FA_80_2, FA_85_0, FA_85_1, FA_85_2, LEN_24, LEN_25, LEN_30, LEN_33, LEN_58, LEN_82, LEN_134]
      refine xE_store1 SZ_3 hb7 (by rw [List.length_set]; omega) rfl fun w8 hb8 hk8 _ => ?_
      exact ⟨⟨1, 1, a, 256, 0⟩, by simp [GFd.right], by show (256 : Int) ≤ _; omega, by simpa [encF] using hb8, hk7.then hk8 (by simp)⟩
    · omega
  rintro _ _ w7 ⟨g, hgr, hgh, hb7, hk7⟩
  have hk07 : Kept [] w w7 := hk06.then hk7 (by simp; omega)
  have hb27 := hb26.kept hk7 (by simpa using hVU)
  refine (ldF0 hb27).2 ?_
  refine (ldF0 hb7).2 ?_
  refine newFields (fs := [⟨1, S, a, b, 0⟩, g]) rfl (by omega) (by omega) rfl fun fv w8 hf8 hk8 => ?_
  have hb8 := hb7.kept hk8 (by simp)
  have hk08 := hk07.then hk8 (by simp)
  refine (xP_build buildN).2 ?_
  refine (xP_build buildN).2 ?_
  refine newVals (raws := [⟨a, strEmpty, .slice none 0 0⟩, ⟨a, strEmpty, .slice none 0 0⟩]) rfl (by omega) (by omega) rfl fun vv w9 hv9 hk9 => ?_
  have hb9 := hb8.kept hk9 (by simp)
  have hk09 := hk08.then hk9 (by simp)
  refine putS (vs := [⟨a, strEmpty, []⟩, ⟨a, strEmpty, []⟩]) (hf8.kept0 hk9) (fun x hx => (List.mem_cons.1 hx).elim (fun h => by rw [h]; show b ≤ _; omega) (fun h => by rw [List.mem_singleton.1 h]; exact hgh)) (by simp) hv9 ((isRow_one isV_n).snoc isV_n) (by simp) (by simp) fun pv p er w10 _ hk10 hres => ?_
  rw [gramPut_two hrt hgr] at hres
  obtain rfl : er = some (.flt opPut 1 (.no 1)) := by
    rcases hres with ⟨h1, h2⟩ | ⟨_, _, _, h1, h2, _⟩
    · cases h2
    · cases h2; exact h1
  have hb10 := hb9.kept hk10 (by simp)
  have hk010 := hk09.then hk10 (by simp)
  simp only [xP_ex0, xP_ex1]
  refine xE_call CF_19 (where_ok (e := .flt opPut 1 (.no 1)) trivial (by simp [Er.faults]) (hgl.kept0 hk010)) ?_
  rintro _ w11 ⟨rfl, hk11⟩
  simp only [whereV, Er.where?, xP_t0, xP_t1, xP_t2]
  have hb11 := hb10.kept hk11 (by simp)
  have hk011 := hk010.then hk11 (by simp)
  refine (ldF0 hb11).2 ?_
  refine xE_call CF_23 (right_ok hgh) ?_
  rintro _ w12 ⟨rfl, hk12⟩
  have hk012 := hk011.then hk12 (by simp)
  rw [hgr]
  simp only [xP_not, Bool.not_false, xIf_true]
  refine kindFl (hgl.kept0 hk012) fun w13 hk13 => ?_
  have hk013 := hk012.then hk13 (by simp)
  simp only [xR_eql, decide_true, xIf_true]
  exact runsG hgl hk013
end Go.Proofs.YtclojjiiiejfpaaDoor
