import Derived.Test.YtoanmeohlpdjfaaDoorXcCodeA
namespace Go.Proofs.YtoanmeohlpdjfaaDoor
set_option linter.unusedSimpArgs false
set_option linter.unusedVariables false
set_option maxRecDepth 100000
attribute [local irreducible] Go.X.xE
open Go Go.X Go.RowKit

/-! ## CodeRuns -/
theorem RowsT.cap {w : World} {v : Value} {l : List (List UInt8)} (h : RowsT w v l) : ∃ a c, v = .slice a l.length c ∧ l.length ≤ c := by
  obtain ⟨rs, ⟨a, c, h1, h2, _⟩, _, h3⟩ := h
  have : rs.length = l.length := by rw [← h3, List.length_map]
  exact ⟨a, c, by rw [h1, this], by omega⟩
theorem litB (x : UInt8) {w : World} {K : Value → World → Prop} (k : ∀ v w', SlT w' encB v [x] → Kept [] w w' → K v w') : xE Tryd.prog (sBuildSlice 32 1 #[(0, .int .u8 x.toNat)]) w K :=
  xE_one EL_32 rfl fun w' hat hk _ => k _ w' ⟨_, 1, rfl, Nat.le_refl _, .inr ⟨w.heap.size, 0, rfl, hat⟩⟩ hk
theorem litR {u v : Value} {x y : List UInt8} {w : World} {K : Value → World → Prop} (hu : SlT w encB u x) (hv : SlT w encB v y) (k : ∀ r w', RowsT w' r [x, y] → Kept [] w w' → K r w') : xE Tryd.prog (sBuildSlice 29 2 #[(0, u), (1, v)]) w K := by
  have h1 := SlT.oneP hu
  have h2 := SlT.oneP hv
  refine xE_buildSlice EL_29 [u, v] rfl rfl (by intro z hz; simp at hz; rcases hz with rfl | rfl <;> (rw [cells_one (by assumption)]; rfl)) (by omega) (by omega) fun w' hb hk _ => k _ w' ⟨[(u, x), (v, y)], ⟨_, 2, rfl, Nat.le_refl _, .inr ⟨w.heap.size, 0, rfl, ?_⟩⟩, ?_, rfl⟩ hk
  · have := hb.at
    simpa [cells_one h1, cells_one h2, encW] using this
  · intro r hr
    simp at hr
    rcases hr with rfl | rfl
    · exact hu.kept0 hk
    · exact hv.kept0 hk
def rB : List (List UInt8) := [[1], [2]]
def rF : List (List UInt8) := encP 2 3 rB 1
theorem rF_take : rF.take 2 = rB := by kernel_rfl
theorem rF_len : rF.length = 3 := by kernel_rfl
theorem rF_1 : (rF.getD 1 []).length = 1 := by kernel_rfl
theorem rF_2 : (rF.getD 2 []).length = 1 := by kernel_rfl
theorem rF_c : (rF.getD 2 []).getD 0 0 = uinv 2 ^^^ umul (uinv 3) 2 := by kernel_rfl
theorem rB_bad : badB 2 rB = false := by kernel_rfl
theorem rB_len0 : len0 rB = 1 := by kernel_rfl
theorem runs3 {y : Value} {w0 w : World} (hy : RowsT w y rF) (hk : Kept [] w0 w) :
    xP Tryd.prog (sIA 29 y (.int .i64 2)) fun v83_69 =>
    xR Tryd.prog (sLoad 32 v83_69) w fun v84_70 =>
    xP Tryd.prog (sIA 32 v84_70 (.int .i64 0)) fun v85_71 =>
    xR Tryd.prog (sLoad 5 v85_71) w fun v86_72 =>
    xE Tryd.prog (sCall 17 #[(.int .u8 2)]) w fun v87_73 w74 =>
    xStill Tryd.prog (sLoad 5 v85_71) v86_72 w74 <|
    xStill Tryd.prog (sLoad 32 v83_69) v84_70 w74 <|
    xE Tryd.prog (sCall 17 #[(.int .u8 3)]) w74 fun v88_75 w76 =>
    xStill Tryd.prog (sLoad 5 v85_71) v86_72 w76 <|
    xStill Tryd.prog (sLoad 32 v83_69) v84_70 w76 <|
    xE Tryd.prog (sCall 18 #[v88_75, (.int .u8 2)]) w76 fun v89_77 w78 =>
    xStill Tryd.prog (sLoad 5 v85_71) v86_72 w78 <|
    xStill Tryd.prog (sLoad 32 v83_69) v84_70 w78 <|
    xP Tryd.prog (sBin .xor 5 v87_73 v89_77) fun v90_79 =>
    xR Tryd.prog (sEq .eql 5 false v86_72 v90_79) w78 fun v91_80 =>
    Ret (fun u w' => u = .bool true ∧ Kept [] w0 w') (.returned v91_80) w78 := by
  refine hy.getA (i := 2) rowW ONE_32 (Kept.refl _ _) (by rw [rF_len]; omega) fun A u hu hA => ?_
  obtain ⟨b, o, c, rfl, hat⟩ := hu.elem encB_len (i := 0) (by rw [rF_2]; omega)
  rw [rF_2]
  refine (xP_IAn (i := 0) SL_32 SZ_5 (by omega)).2 ?_
  rw [← getD_lt (d := 0) (by rw [rF_2]; omega), rF_c] at hat
  have hc := at_one hat
  rw [rF_2] at hA
  refine (ld1 ONE_5 hc).2 ?_
  refine rinvS (a := 2) ?_
  refine (still1 ONE_5 hc).2 ?_
  refine (still1 ONE_32 (hA w (Kept.refl _ _))).2 ?_
  refine rinvS (a := 3) ?_
  refine (still1 ONE_5 hc).2 ?_
  refine (still1 ONE_32 (hA w (Kept.refl _ _))).2 ?_
  refine rmulS (b := 2) ?_
  refine (still1 ONE_5 hc).2 ?_
  refine (still1 ONE_32 (hA w (Kept.refl _ _))).2 ?_
  rw [xP_xor8, xR_eql]
  exact ⟨by simp, hk⟩
theorem runs2 {y : Value} {w0 w : World} (hy : RowsT w y rF) (hk : Kept [] w0 w) : ∀ K3 : World → Prop, (∀ w', Kept [] w w' → K3 w') →
    xP Tryd.prog (sSlice 29 y none (some (.int .i64 2)) none) fun v75_60 =>
    (xE Tryd.prog (sBuildSlice 32 1 #[(0, (.int .u8 1))]) w fun v76_61 w62 =>
    xE Tryd.prog (sBuildSlice 32 1 #[(0, (.int .u8 2))]) w62 fun v77_63 w64 =>
    xE Tryd.prog (sBuildSlice 29 2 #[(0, v76_61), (1, v77_63)]) w64 fun v78_65 w66 =>
    xE Tryd.prog (sCall 16 #[v75_60, v78_65]) w66 fun v79_67 w68 =>
    xIf v79_67 (K3 w68) (Ret (fun u w' => u = .bool true ∧ Kept [] w0 w') (.returned (.bool false)) w68)) ∧
    (xE Tryd.prog (sBuildSlice 32 1 #[(0, (.int .u8 2))]) w fun v77_81 w82 =>
    xE Tryd.prog (sBuildSlice 32 1 #[(0, (.int .u8 1))]) w82 fun v76_83 w84 =>
    xE Tryd.prog (sBuildSlice 29 2 #[(0, v76_83), (1, v77_81)]) w84 fun v78_85 w86 =>
    xE Tryd.prog (sCall 16 #[v75_60, v78_85]) w86 fun v79_87 w88 =>
    xIf v79_87 (K3 w88) (Ret (fun u w' => u = .bool true ∧ Kept [] w0 w') (.returned (.bool false)) w88)) := by
  intro K3 k3
  obtain ⟨ya, yc, rfl, hyc⟩ := RowsT.cap hy
  rw [rF_len] at hyc
  refine (xP_upto (j := 2) SL_29 SZ_32 (by omega) (by omega)).2 ?_
  have ht := RowsT.upto (j := 2) hy (by rw [rF_len]; omega)
  rw [rF_take] at ht
  have hs : ∀ x ∈ rB, x.length ≤ 1000000 := by intro x hx; simp [rB] at hx; rcases hx with rfl | rfl <;> simp
  refine ⟨?_, ?_⟩
  · refine litB 1 fun u1 w1 h1 k1 => ?_
    refine litB 2 fun u2 w2 h2 k2 => ?_
    refine litR (h1.kept0 k2) h2 fun r w3 hr k4 => ?_
    have k := (k1.then k2 (by simp)).then k4 (by simp)
    refine sameS (ht.kept0 k) hr (by simp [rB]) hs fun w4 k5 => ?_
    rw [decide_eq_true (show rB = [[1], [2]] from rfl), xIf_true]
    exact k3 w4 (k.then k5 (by simp))
  · refine litB 2 fun u2 w1 h2 k1 => ?_
    refine litB 1 fun u1 w2 h1 k2 => ?_
    refine litR h1 (h2.kept0 k2) fun r w3 hr k4 => ?_
    have k := (k1.then k2 (by simp)).then k4 (by simp)
    refine sameS (ht.kept0 k) hr (by simp [rB]) hs fun w4 k5 => ?_
    rw [decide_eq_true (show rB = [[1], [2]] from rfl), xIf_true]
    exact k3 w4 (k.then k5 (by simp))
theorem pairPts {u v : Value} {a b : Int} {x y : List UInt8} {w : World} {K : Value → World → Prop} (hu : SlT w encB u x) (hv : SlT w encB v y) (k : ∀ r w', SlT w' encPt r [⟨a, u, x⟩, ⟨b, v, y⟩] → PtsOk w' [⟨a, u, x⟩, ⟨b, v, y⟩] → Kept [] w w' → K r w') :
    xE Tryd.prog (sBuildSlice 48 2 #[(0, .agg #[.int .i64 a, u]), (1, .agg #[.int .i64 b, v])]) w K := by
  refine xE_buildSlice EL_48 [.agg #[.int .i64 a, u], .agg #[.int .i64 b, v]] rfl rfl (by simp [Value.cells]) (by omega) (by omega) fun w' hb hk _ => k _ w' ⟨_, 2, rfl, Nat.le_refl _, .inr ⟨w.heap.size, 0, rfl, ?_⟩⟩ ?_ hk
  · have := hb.at
    simpa [encPt, Value.cells] using this
  · intro q hq
    simp at hq
    rcases hq with rfl | rfl
    · exact hu.kept0 hk
    · exact hv.kept0 hk
theorem PTC : ptrB Tryd.prog 22 := by unfold ptrB; kernel_rfl
theorem codeRuns_ok {w : World} (hg : Glob w) : Gives Tryd.prog 3 #[] w fun u w' => u = .bool true ∧ Kept [] w w' := by
  refine C_stavelaw4_CodeRuns ?_
  unfold S_stavelaw4_CodeRuns
  refine xE_call CF_12 (new_ok (k := 2) (n := 3) (by omega) (by omega) (by omega)) ?_
  rintro _ w1 ⟨p, f, cv, rfl, hC, hk1⟩
  simp only [xP_ex0, xP_ex1]
  refine xE_call CF_12 (new_bad (k := 3) (n := 2) (by unfold goodKN; omega)) ?_
  rintro _ _ ⟨rfl, rfl⟩
  simp only [xP_ex0, xP_ex1]
  refine xJoin_of (fun ls w' => ls = [.bool false] ∧ Kept [] w1 w') ?_ ?_
  · refine (xR_pnil PTC).2 ?_
    simp only [Option.isNone_some, xIf_false]
    refine (xR_neqN IFE).2 ?_
    simp only [xIf_false]
    refine xE_call CF_13 (kind_ok (e := .flt opCN 0 (.no 1)) trivial (hg.kept0 hk1)) ?_
    rintro _ w2 ⟨rfl, hk2⟩
    rw [xR_neq]
    exact ⟨rfl, hk2⟩
  rintro _ _ w2 ⟨rfl, hk12⟩
  have hk2 := hk1.then hk12 (by simp)
  have hC2 := hC.kept0 hk12
  clear hC hk12 hk1
  simp only [List.getD_cons_zero, xIf_false]
  refine litB 1 fun u1 w3 h1 k1 => ?_
  refine litB 2 fun u2 w4 h2 k2 => ?_
  refine litR (h1.kept0 k2) h2 fun r w5 hr k3 => ?_
  have k25 := (k1.then k2 (by simp)).then k3 (by simp)
  have hC5 := hC2.kept0 k25
  have hk5 := hk2.then k25 (by simp)
  refine xE_call CF_14 (encode_ok (B := rB) hC5 hr (by simp [rB]) (by rw [rB_len0]; omega)) ?_
  rintro _ w6 ⟨hk6, hres⟩
  rw [rB_bad] at hres
  obtain ⟨y, rs, G, rfl, hyo, hyx⟩ := hres
  have hy : RowsT w6 y rF := by rw [rB_len0] at hyx; have := hyo.rows; rw [hyx] at this; exact this
  simp only [xP_ex0, xP_ex1]
  have hk06 := hk5.then hk6 (by simp)
  obtain ⟨ya, yc, hye, hyc⟩ := RowsT.cap hy
  rw [rF_len] at hye hyc
  refine xJoin_of (fun ls w' => ls = [.bool false] ∧ w6 = w') ?_ ?_
  · refine (xR_neqN IFE).2 ?_
    simp only [xIf_false]
    rw [hye]
    simp only [xP_nil, xP_pick, xP_func, xP_not, xP_add, xP_sub, xP_mul, xP_lss, xP_leq, xP_gtr, xP_geq, xP_max2, xP_min2, xR_eql, xR_neq, Nat.zero_add, Nat.add_zero, Nat.reduceAdd, List.getD_cons_zero, List.getD_cons_succ, xIf_true, xIf_false, FA_35_0, FA_35_1, FA_66_0, FA_66_1, FA_66_2, FA_82_0, FA_82_1, FA_82_2, FA_86_0, FA_86_1, LEN_29, LEN_32, LEN_47, LEN_48, LEN_79, LEN_116]
    rw [← hye]
    simp only [show decide (((3 : Nat) : Int) ≠ 3) = false from rfl, xIf_false]
    refine hy.get (i := 2) rowW (Kept.refl _ _) (by rw [rF_len]; omega) fun x hx => ?_
    obtain ⟨xa, xc, rfl, _, _⟩ := hx
    rw [rF_2]
    simp only [xP_nil, xP_pick, xP_func, xP_not, xP_add, xP_sub, xP_mul, xP_lss, xP_leq, xP_gtr, xP_geq, xP_max2, xP_min2, xR_eql, xR_neq, Nat.zero_add, Nat.add_zero, Nat.reduceAdd, List.getD_cons_zero, List.getD_cons_succ, xIf_true, xIf_false, FA_35_0, FA_35_1, FA_66_0, FA_66_1, FA_66_2, FA_82_0, FA_82_1, FA_82_2, FA_86_0, FA_86_1, LEN_29, LEN_32, LEN_47, LEN_48, LEN_79, LEN_116]
    exact ⟨by simp, by trivial⟩
  rintro _ _ _ ⟨rfl, rfl⟩
  simp only [List.getD_cons_zero, xIf_false]
  have hd6 := kept_drew [] w6
  refine hy.get (i := 1) rowW hd6 (by rw [rF_len]; omega) fun v1 hv1 => ?_
  obtain ⟨a1, n1, c1, rfl⟩ : ∃ a n c, v1 = .slice a n c := by obtain ⟨a, c, e, _⟩ := hv1; exact ⟨a, _, c, e⟩
  refine (xP_build (cells := #[.int .i64 1, .slice a1 n1 c1]) (by kernel_rfl)).2 ?_
  refine hy.get (i := 2) rowW hd6 (by rw [rF_len]; omega) fun v2 hv2 => ?_
  obtain ⟨a2, n2, c2, rfl⟩ : ∃ a n c, v2 = .slice a n c := by obtain ⟨a, c, e, _⟩ := hv2; exact ⟨a, _, c, e⟩
  refine (xP_build (cells := #[.int .i64 2, .slice a2 n2 c2]) (by kernel_rfl)).2 ?_
  generalize hw1 : Value.slice a1 n1 c1 = v1 at *
  generalize hw2 : Value.slice a2 n2 c2 = v2 at *
  refine pairPts (hv1.kept0 hd6) (hv2.kept0 hd6) fun pv w7 hpv hpo hk7 => ?_
  have hk67 := hd6.then hk7 (by simp)
  have hC7 := hC5.kept0 (hk6.then hk67 (by simp))
  have hbad : ([⟨1, v1, rF.getD 1 []⟩, ⟨2, v2, rF.getD 2 []⟩] : List Pt).findIdx (badPt 3 [⟨1, v1, rF.getD 1 []⟩, ⟨2, v2, rF.getD 2 []⟩]) = 2 := by
    refine List.findIdx_eq_length_of_false fun q hq => ?_
    unfold badPt s0
    rw [decide_eq_false_iff_not]
    have e1 := rF_1
    have e2 := rF_2
    have hq : q = ⟨1, v1, rF.getD 1 []⟩ ∨ q = ⟨2, v2, rF.getD 2 []⟩ := by simpa using hq
    rcases hq with rfl | rfl
    · show ¬ ((1 : Int) < 0 ∨ (3 : Int) ≤ 1 ∨ (rF.getD 1 []).length ≠ (rF.getD 1 []).length)
      omega
    · show ¬ ((2 : Int) < 0 ∨ (3 : Int) ≤ 2 ∨ (rF.getD 2 []).length ≠ (rF.getD 1 []).length)
      omega
  have hcho : chosenP 2 ([⟨1, v1, rF.getD 1 []⟩, ⟨2, v2, rF.getD 2 []⟩] : List Pt) = [⟨1, v1, rF.getD 1 []⟩, ⟨2, v2, rF.getD 2 []⟩] := by
    simp [chosenP, pick, hasAt]
  refine xE_call CF_15 (decode_ok hC7 hpv hpo (by simp) (by unfold s0; show (rF.getD 1 []).length ≤ _; rw [rF_1]; omega)) ?_
  rintro _ w8 ⟨hdec, hk8⟩
  have hs0 : s0 ([⟨1, v1, rF.getD 1 []⟩, ⟨2, v2, rF.getD 2 []⟩] : List Pt) = 1 := rF_1
  rcases hdec with ⟨h1, _⟩ | ⟨_, h1, _⟩ | ⟨_, hch, z, X, rfl, hX1, hX2, hX3, hX4⟩
  · rw [hbad] at h1; simp at h1
  · rw [hcho] at h1; simp at h1
  rw [hs0] at hX2 hX4
  have hXB : X = rB := dec_back (k := 2) (n := 3) (s := 1) (by omega) (by rw [hbad]; rfl) hch (by omega) hX1 hX2 rfl (by intro b hb; simp [rB] at hb; rcases hb with rfl | rfl <;> rfl) hX4 (fun q hq => by
    rw [hcho] at hq
    have hq : q = ⟨1, v1, rF.getD 1 []⟩ ∨ q = ⟨2, v2, rF.getD 2 []⟩ := by simpa using hq
    rcases hq with rfl | rfl
    · show rF.getD 1 [] = mixP (crow 2 1) rB 1
      kernel_rfl
    · show rF.getD 2 [] = mixP (crow 2 2) rB 1
      kernel_rfl)
  subst hXB
  simp only [xP_ex0, xP_ex1]
  refine (xR_eqlN IFE).2 ?_
  simp only [xIf_true]
  have hd8 := kept_drew [] w8
  have hk68 := (hk67.then hk8 (by simp)).then hd8 (by simp)
  have hk08 := hk06.then hk68 (by simp)
  have hzd := hX3.kept0 hd8
  have hyd := hy.kept0 hk68
  have hs : ∀ x ∈ rB, x.length ≤ 1000000 := by intro x hx; simp [rB] at hx; rcases hx with rfl | rfl <;> simp
  refine ⟨?_, ?_⟩
  · refine litB 1 fun u1 w9 h1 k1 => ?_
    refine litB 2 fun u2 w10 h2 k2 => ?_
    refine litR (h1.kept0 k2) h2 fun r w11 hr k4 => ?_
    have k := (k1.then k2 (by simp)).then k4 (by simp)
    refine sameS (hzd.kept0 k) hr (by simp [rB]) hs fun w12 k5 => ?_
    rw [decide_eq_true (show rB = [[1], [2]] from rfl), xIf_true]
    have k6 := k.then k5 (by simp)
    exact runs2 (hyd.kept0 k6) (hk08.then k6 (by simp)) _ fun w' hk' => runs3 ((hyd.kept0 k6).kept0 hk') ((hk08.then k6 (by simp)).then hk' (by simp))
  · refine litB 2 fun u2 w9 h2 k1 => ?_
    refine litB 1 fun u1 w10 h1 k2 => ?_
    refine litR h1 (h2.kept0 k2) fun r w11 hr k4 => ?_
    have k := (k1.then k2 (by simp)).then k4 (by simp)
    refine sameS (hzd.kept0 k) hr (by simp [rB]) hs fun w12 k5 => ?_
    rw [decide_eq_true (show rB = [[1], [2]] from rfl), xIf_true]
    have k6 := k.then k5 (by simp)
    exact runs2 (hyd.kept0 k6) (hk08.then k6 (by simp)) _ fun w' hk' => runs3 ((hyd.kept0 k6).kept0 hk') ((hk08.then k6 (by simp)).then hk' (by simp))
theorem cRunsG {w w' : World} (hg : Glob w) (hk : Kept [] w w') : xE Tryd.prog (sCall 3 #[]) w' fun v w'' => Ret (fun u w' => u = .bool true ∧ Kept [] w w') (.returned v) w'' := by
  refine xE_call CF_3 (codeRuns_ok (hg.kept0 hk)) ?_
  rintro _ w2 ⟨rfl, hk2⟩
  exact ⟨rfl, hk.then hk2 (by simp)⟩
end Go.Proofs.YtoanmeohlpdjfaaDoor
