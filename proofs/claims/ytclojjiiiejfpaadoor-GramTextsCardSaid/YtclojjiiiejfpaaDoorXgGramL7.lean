import Derived.Test.YtclojjiiiejfpaaDoorXgGramL6
namespace Go.Proofs.YtclojjiiiejfpaaDoor
set_option linter.unusedSimpArgs false
set_option linter.unusedVariables false
set_option maxRecDepth 100000
attribute [local irreducible] Go.X.xE
open Go Go.X Go.RowKit

/-! ## GramTexts -/
theorem gtexts_ok {lo hi kn mn : Int} {w : World} (hgl : Glob w) :
    Gives Tryd.prog 10 #[.int .i64 lo, .int .i64 hi, .int .i64 kn, .int .i64 mn] w fun u w' => u = .bool true ∧ Kept [] w w' := by
  refine C_stavelaw2_GramTexts ?_
  unfold S_stavelaw2_GramTexts
  refine xE_call CF_26 (within_ok (by omega) (by omega) (by omega)) ?_
  rintro _ _ ⟨rfl, rfl⟩
  obtain ⟨wa1, wa2⟩ := within_bd (n := lo) (lo := 0) (hi := 5) (by omega)
  generalize within lo 0 5 = a at *
  refine xE_call CF_26 (within_ok (by omega) (by omega) (by omega)) ?_
  rintro _ _ ⟨rfl, rfl⟩
  obtain ⟨wc1, wc2⟩ := within_bd (n := hi) (lo := 0) (hi := 5) (by omega)
  generalize within hi 0 5 = c at *
  refine xP_add.2 ?_
  rw [wrap64 (by omega) (by omega)]
  obtain ⟨b, rfl⟩ : ∃ b, c = b - a := ⟨a + c, by omega⟩
  rw [show a + (b - a) = b by omega]
  refine xE_call CF_26 (within_ok (by omega) (by omega) (by omega)) ?_
  rintro _ _ ⟨rfl, rfl⟩
  obtain ⟨wk1, wk2⟩ := within_bd (n := kn) (lo := 0) (hi := 12) (by omega)
  obtain ⟨k, hk⟩ := Int.eq_ofNat_of_zero_le wk1
  rw [hk] at wk2 ⊢
  refine xE_call CF_26 (within_ok (by omega) (by omega) (by omega)) ?_
  rintro _ _ ⟨rfl, rfl⟩
  obtain ⟨wm1, wm2⟩ := within_bd (n := mn) (lo := 0) (hi := 6) (by omega)
  obtain ⟨m, hm⟩ := Int.eq_ofNat_of_zero_le wm1
  rw [hm] at wm2 ⊢
  have hrf := right_f wa1 (show a ≤ b by omega) (by omega)
  have hrh := right_h (m := m) wa1 (show a ≤ b by omega) (by omega) (by omega)
  have hsf : small [⟨2, 0, a, b, 0⟩] := fun f hf => by rw [List.mem_singleton.1 hf]; show b ≤ _; omega
  have hsh : small [⟨3, 0, a, b, m⟩] := fun f hf => by rw [List.mem_singleton.1 hf]; show b ≤ _; omega
  refine (xP_build (cells := (encF ⟨2, 0, a, b, 0⟩).toArray) (by kernel_rfl)).2 ?_
  refine newF (f := ⟨2, 0, a, b, 0⟩) fun w2 hb2 hk2 => ?_
  generalize w.heap.size = V at *
  have hkd := kept_drew [] w2
  refine xJoin_of (fun ls w' => ∃ pv p er, ls = [pv, optV er] ∧ SlT w' encB pv p ∧ Kept [] w2 w' ∧ (er = none ∧ gramPut [⟨2, 0, a, b, 0⟩] [⟨0, zs k, []⟩] = .ok p ∨ ∃ i k', (k' = 1 ∨ k' = 2) ∧ er = some (.flt opPut i (.no k')) ∧ gramPut [⟨2, 0, a, b, 0⟩] [⟨0, zs k, []⟩] = .error (i, k') ∧ p = [])) ?_ ?_
  · refine (ldF0 (hb2.kept hkd (by simp))).2 ?_
    have fin : ∀ (fv vv : Value) (w' : World), SlT w' encF fv [⟨2, 0, a, b, 0⟩] → SlT w' encV vv [⟨0, zs k, .slice none 0 0⟩] → Kept [] w2 w' → xE Tryd.prog (sCall 16 #[fv, vv]) w' fun v49 w26 => xP Tryd.prog (sExtract v49 0) fun v50 => xP Tryd.prog (sExtract v49 1) fun v51 =>
        (fun (ls : List Value) w' => ∃ pv p er, ls = [pv, optV er] ∧ SlT w' encB pv p ∧ Kept [] w2 w' ∧ (er = none ∧ gramPut [⟨2, 0, a, b, 0⟩] [⟨0, zs k, []⟩] = .ok p ∨ ∃ i k', (k' = 1 ∨ k' = 2) ∧ er = some (.flt opPut i (.no k')) ∧ gramPut [⟨2, 0, a, b, 0⟩] [⟨0, zs k, []⟩] = .error (i, k') ∧ p = [])) [v50, v51] w26 := by
      intro fv vv w' hf hv hk'
      refine putS (vs := [⟨0, zs k, []⟩]) hf hsf (by simp) hv (isRow_one ⟨rfl, rfl, SlT.nil_ _ _⟩) (by simp) (by simp) fun pv p er w'' hp hk'' hres => ?_
      simp only [xP_ex0, xP_ex1]
      exact ⟨pv, p, er, rfl, hp, hk'.then hk'' (by simp), hres⟩
    have st : ∀ (w' : World) (B : Prop), Kept [] w2 w' → B → xStill Tryd.prog (sLoad 23 (.pointer (some ⟨V, 0, none⟩))) (vF ⟨2, 0, a, b, 0⟩) w' B := fun w' B hk' hB => (stF0 (hb2.kept hk' (by simp))).2 hB
    refine ⟨?_, ?_⟩
    · refine oneF fun fv w3 hf3 j3 => ?_
      refine mk0 (by omega) fun mv w4 hm4 j4 => ?_
      refine cv0 hm4 ?_
      refine (xP_build buildS).2 ?_
      refine oneV (x := ⟨0, zs k, .slice none 0 0⟩) fun vv w5 hv5 j5 => ?_
      exact fin fv vv w5 ((hf3.kept0 j4).kept0 j5) hv5 (((hkd.then j3 (by simp)).then j4 (by simp)).then j5 (by simp))
    refine mk0 (by omega) fun mv w3 hm3 j3 => ?_
    have k3 := hkd.then j3 (by simp)
    refine st w3 _ k3 ⟨?_, ?_⟩
    · refine oneF fun fv w4 hf4 j4 => ?_
      refine cv0 (hm3.kept0 j4) ?_
      refine (xP_build buildS).2 ?_
      refine oneV (x := ⟨0, zs k, .slice none 0 0⟩) fun vv w5 hv5 j5 => ?_
      exact fin fv vv w5 (hf4.kept0 j5) hv5 ((k3.then j4 (by simp)).then j5 (by simp))
    refine cv0 hm3 ?_
    refine st w3 _ k3 ?_
    refine (xP_build buildS).2 ⟨?_, ?_⟩
    · refine oneF fun fv w4 hf4 j4 => ?_
      refine oneV (x := ⟨0, zs k, .slice none 0 0⟩) fun vv w5 hv5 j5 => ?_
      exact fin fv vv w5 (hf4.kept0 j5) hv5 ((k3.then j4 (by simp)).then j5 (by simp))
    · refine oneV (x := ⟨0, zs k, .slice none 0 0⟩) fun vv w4 hv4 j4 => ?_
      refine st w4 _ (k3.then j4 (by simp)) ?_
      refine oneF fun fv w5 hf5 j5 => ?_
      exact fin fv vv w5 hf5 (hv4.kept0 j5) ((k3.then j4 (by simp)).then j5 (by simp))
  rintro _ _ w3 ⟨pv, p, er, rfl, hp3, hk3, hres⟩
  have hk03 := hk2.then hk3 (by simp)
  simp only [List.getD_cons_zero, List.getD_cons_succ]
  refine xJoin_of (fun ls w' => ls = [.bool (decide (a ≤ k ∧ (k : Int) ≤ b))] ∧ w3 = w') ?_ ?_
  · simp only [xP_nil, xP_pick, xP_func, xP_not, xP_add, xP_sub, xP_mul, xP_lss, xP_leq, xP_gtr, xP_geq, xP_max2, xP_min2, xR_eql, xR_neq, Nat.zero_add, Nat.add_zero, Nat.reduceAdd, List.getD_cons_zero, List.getD_cons_succ, xIf_true, xIf_false, FA_23_0, FA_23_1, FA_23_2, FA_23_3, FA_23_4, FA_32_0, FA_32_1, FA_32_2, FA_63_0, FA_63_1, FA_63_2, FA_63_3, FA_80_0, FA_80_1, FA_80_2, FA_85_0, FA_85_1, FA_85_2, LEN_24, LEN_25, LEN_30, LEN_33, LEN_58, LEN_82, LEN_134, xIf_dec]
    exact ⟨fun h1 => ⟨by simp [show a ≤ k from h1], trivial⟩, fun h1 => ⟨by simp [show ¬ a ≤ k from h1], trivial⟩⟩
  rintro _ _ _ ⟨rfl, rfl⟩
  simp only [List.getD_cons_zero]
  rw [gramPut_one hrf, fits_f] at hres
  refine xJoin_of (fun ls w' => ls = [.bool false] ∧ w3 = w') ?_ ?_
  · refine optV_eql.2 ?_
    refine (xR_neqBool BOOLG).2 ?_
    by_cases hfit : a ≤ k ∧ (k : Int) ≤ b
    · rw [decide_eq_true hfit, if_pos rfl] at hres
      obtain ⟨rfl, rfl⟩ : er = none ∧ (⟨2, 0, a, b, 0⟩ : GFd).written ⟨0, zs k, []⟩ = p := by
        rcases hres with ⟨h1, h2⟩ | ⟨_, _, _, _, h2, _⟩
        · cases h2; exact ⟨h1, rfl⟩
        · cases h2
      rw [decide_eq_true hfit]
      simp only [Option.isNone_none, beq_self_eq_true, Bool.not_true, xIf_false, xIf_true]
      have hl := len_f (a := a) (b := b) (k := k)
      obtain ⟨pa, pc, rfl, r1, r2⟩ := hp3
      try simp only [xP_nil, xP_pick, xP_func, xP_not, xP_add, xP_sub, xP_mul, xP_lss, xP_leq, xP_gtr, xP_geq, xP_max2, xP_min2, xR_eql, xR_neq, Nat.zero_add, Nat.add_zero, Nat.reduceAdd, List.getD_cons_zero, List.getD_cons_succ, xIf_true, xIf_false, FA_23_0, FA_23_1, FA_23_2, FA_23_3, FA_23_4, FA_32_0, FA_32_1, FA_32_2, FA_63_0, FA_63_1, FA_63_2, FA_63_3, FA_80_0, FA_80_1, FA_80_2, FA_85_0, FA_85_1, FA_85_2, LEN_24, LEN_25, LEN_30, LEN_33, LEN_58, LEN_82, LEN_134]
      rw [wrap64 (by omega) (by omega)]
      rw [decide_eq_false (by rw [hl]; omega)]
      exact ⟨rfl, trivial⟩
    · rw [decide_eq_false hfit, if_neg (by decide)] at hres
      obtain rfl : er = some (.flt opPut 0 (.no 2)) := by
        rcases hres with ⟨h1, h2⟩ | ⟨_, _, _, h1, h2, _⟩
        · cases h2
        · cases h2; exact h1
      rw [decide_eq_false hfit]
      simp only [Option.isNone_some, beq_self_eq_true, Bool.not_true, xIf_false]
      exact ⟨trivial, trivial⟩
  rintro _ _ _ ⟨rfl, rfl⟩
  simp only [List.getD_cons_zero, xIf_false]
  clear hres hp3
  refine (ldF0 (hb2.kept hk3 (by simp))).2 ?_
  refine oneF fun fv w4 hf4 hk4 => ?_
  refine xP_add.2 ?_
  rw [wrap64 (by omega) (by omega)]
  refine (xP_conv INT_3 INT_5).2 ?_
  obtain ⟨cb, hcb, hcbn⟩ : ∃ cb : UInt8, Value.int .u8 (IntKind.u8.wrap (b + 1)) = .int .u8 cb.toNat ∧ (cb.toNat : Int) = b + 1 := ⟨UInt8.ofNat ((b + 1) % 256).toNat, by rw [wrapU8]; exact low_cell _, by rw [UInt8.toNat_ofNat']; omega⟩
  rw [hcb]
  refine newBytes (l := [cb, 0]) rfl (by omega) (by omega) rfl fun bv w5 F5 ho5 hF5 hk5 => ?_
  have hk05 := (hk03.then hk4 (by simp)).then hk5 (by simp)
  refine getS (hf4.kept0 hk5) hsf (by simp) (ownBytes (l := [cb, 0]) ho5) (by simp) fun gv rg gs er2 w6 _ _ _ hk6 hres2 => ?_
  rw [get_f wa1 (show a ≤ b by omega) (by omega) hcbn] at hres2
  obtain rfl : er2 = some (.flt opGet 0 (.no 2)) := by
    rcases hres2 with ⟨_, h2⟩ | ⟨_, _, _, h1, h2, _⟩
    · cases h2
    · cases h2; exact h1
  have hk06 := hk05.then hk6 (by simp)
  simp only [xP_ex0, xP_ex1]
  refine kindFl (hgl.kept0 hk06) fun w7 hk7 => ?_
  have hk07 := hk06.then hk7 (by simp)
  simp only [xR_neq, ne_eq, not_true_eq_false, decide_false, xIf_false]
  refine (xP_build (cells := (encF ⟨3, 0, a, b, m⟩).toArray) (by kernel_rfl)).2 ?_
  refine newF (f := ⟨3, 0, a, b, m⟩) fun w8 hb8 hk8 => ?_
  generalize w7.heap.size = U at *
  have hk08 := hk07.then hk8 (by simp)
  have hU := hb8.lt
  refine xLoop_of (fun ls w' => ∃ (i : Nat) (u : Value) (F : List Nat), ls = [u, .int .i64 i] ∧ i ≤ k ∧ Own w' 9 1 u (List.replicate i (zs m)).length ((List.replicate i (zs m)).flatMap encS) F ∧ (∀ g ∈ F, w8.heap.size ≤ g) ∧ Kept [] w8 w') (fun ls _ => match ls with | [_, .int _ i] => k - i.toNat | _ => 0) ⟨0, _, [], rfl, by omega, own_nil _ _ _, by simp, Kept.refl _ _⟩ ?_
  rintro _ _ w9 ⟨i, u, F, rfl, hi, ho9, hF9, hk9⟩
  have hz9 := hk9.size
  simp only [xP_nil, xP_pick, xP_func, xP_not, xP_add, xP_sub, xP_mul, xP_lss, xP_leq, xP_gtr, xP_geq, xP_max2, xP_min2, xR_eql, xR_neq, Nat.zero_add, Nat.add_zero, Nat.reduceAdd, List.getD_cons_zero, List.getD_cons_succ, xIf_true, xIf_false, FA_23_0, FA_23_1, FA_23_2, FA_23_3, FA_23_4, FA_32_0, FA_32_1, FA_32_2, FA_63_0, FA_63_1, FA_63_2, FA_63_3, FA_80_0, FA_80_1, FA_80_2, FA_85_0, FA_85_1, FA_85_2, LEN_24, LEN_25, LEN_30, LEN_33, LEN_58, LEN_82, LEN_134, xIf_dec]
  refine ⟨fun hlt => ?_, fun hge => ?_⟩
  · refine mk0 (by omega) fun mv w10 hm10 j10 => ?_
    refine cv0 hm10 ?_
    refine oneS fun sv w11 hs11 j11 => ?_
    have j911 := j10.then j11 (by simp)
    refine appS (ho9.kept j911 (by simp)) hs11 (by rw [List.length_replicate]; omega) fun u' w12 F' ho12 hF12 j12 => ?_
    rw [wrap64 (by omega) (by omega)]
    rw [show List.replicate i (zs m) ++ [zs m] = List.replicate (i + 1) (zs m) by rw [List.replicate_succ']] at ho12
    have := j911.size
    refine ⟨⟨i + 1, u', F', rfl, by omega, ho12, fun g hg => ?_, (hk9.then j911 (by simp)).then j12 (fun g hg => .inr (hF9 g hg))⟩, by omega⟩
    rcases hF12 g hg with h | h
    · exact hF9 g h
    · omega
  obtain rfl : i = k := by omega
  have hb9 := hb8.kept hk9 (by simp)
  have hk09 := hk08.then hk9 (by simp)
  have hlv9 : SlT w9 encS u (List.replicate i (zs m)) := ho9.slT encS_len (by omega)
  refine (ldF0 hb9).2 ?_
  refine oneF fun fv2 w10 hf10 hk10 => ?_
  obtain ⟨ua, uc, rfl, u1, u2⟩ := hlv9
  have hlv9 : SlT w9 encS (.slice ua (List.replicate i (zs m)).length uc) (List.replicate i (zs m)) := ⟨ua, uc, rfl, u1, u2⟩
  refine (xP_build buildLV).2 ?_
  refine oneV (x := ⟨0, strEmpty, .slice ua (List.replicate i (zs m)).length uc⟩) fun vv w11 hv11 hk11 => ?_
  have j911 := hk10.then hk11 (by simp)
  refine putS (vs := [⟨0, strEmpty, List.replicate i (zs m)⟩]) (hf10.kept0 hk11) hsh (by simp) hv11 (isRow_one ⟨rfl, rfl, hlv9.kept0 j911⟩) (by simp) (by intro y hy; rw [List.mem_singleton.1 hy]; show (List.replicate i (zs m)).length ≤ _; rw [List.length_replicate]; omega) fun qv q er3 w12 hq12 hk12 hres3 => ?_
  have hk912 := j911.then hk12 (by simp)
  have hk012 := hk09.then hk912 (by simp)
  simp only [xP_ex0, xP_ex1]
  rw [gramPut_one hrh, fits_h] at hres3
  refine xJoin_of (fun ls w' => ls = [.bool false] ∧ w12 = w') ?_ ?_
  · refine optV_eql.2 ?_
    refine (xR_neqBool BOOLG).2 ?_
    by_cases hfit : a ≤ i ∧ (i : Int) ≤ b
    · rw [decide_eq_true hfit, if_pos rfl] at hres3
      obtain ⟨rfl, rfl⟩ : er3 = none ∧ (⟨3, 0, a, b, m⟩ : GFd).written ⟨0, strEmpty, List.replicate i (zs m)⟩ = q := by
        rcases hres3 with ⟨h1, h2⟩ | ⟨_, _, _, _, h2, _⟩
        · cases h2; exact ⟨h1, rfl⟩
        · cases h2
      rw [decide_eq_true hfit]
      simp only [Option.isNone_none, beq_self_eq_true, Bool.not_true, xIf_false, xIf_true]
      refine ⟨fun _ => ?_, fun h => absurd hfit h⟩
      have hl := len_h (a := a) (b := b) (m := m) (k := i)
      have hmul : i * (2 + m) ≤ 12 * 8 := Nat.mul_le_mul (by omega) (by omega)
      have hmi : (i : Int) * (2 + (m : Int)) = ((i * (2 + m) : Nat) : Int) := by push_cast; rfl
      generalize i * (2 + m) = im at *
      obtain ⟨pa, pc, rfl, r1, r2⟩ := hq12
      try simp only [xP_nil, xP_pick, xP_func, xP_not, xP_add, xP_sub, xP_mul, xP_lss, xP_leq, xP_gtr, xP_geq, xP_max2, xP_min2, xR_eql, xR_neq, Nat.zero_add, Nat.add_zero, Nat.reduceAdd, List.getD_cons_zero, List.getD_cons_succ, xIf_true, xIf_false, FA_23_0, FA_23_1, FA_23_2, FA_23_3, FA_23_4, FA_32_0, FA_32_1, FA_32_2, FA_63_0, FA_63_1, FA_63_2, FA_63_3, FA_80_0, FA_80_1, FA_80_2, FA_85_0, FA_85_1, FA_85_2, LEN_24, LEN_25, LEN_30, LEN_33, LEN_58, LEN_82, LEN_134]
      rw [wrap64 (x := 2 + (m : Int)) (by omega) (by omega), hmi, wrap64 (x := (im : Int)) (by omega) (by omega), wrap64 (by omega) (by omega)]
      rw [decide_eq_false (by rw [hl]; omega)]
      exact ⟨rfl, trivial⟩
    · rw [decide_eq_false hfit, if_neg (by decide)] at hres3
      obtain rfl : er3 = some (.flt opPut 0 (.no 2)) := by
        rcases hres3 with ⟨h1, h2⟩ | ⟨_, _, _, h1, h2, _⟩
        · cases h2
        · cases h2; exact h1
      rw [decide_eq_false hfit]
      simp only [Option.isNone_some, beq_self_eq_true, Bool.not_true, xIf_false]
      exact ⟨fun h => absurd h hfit, fun _ => ⟨trivial, trivial⟩⟩
  rintro _ _ _ ⟨rfl, rfl⟩
  simp only [List.getD_cons_zero, xIf_false]
  clear hres3 hq12 hv11 hf10
  have hb12 := hb9.kept hk912 (by simp)
  have ho12 := ho9.kept hk912 (by simp)
  have hdd := kept_drew [] w12
  have hUF : U ∉ F := fun h => by have := hF9 U h; omega
  refine xJoin_of (fun ls w' => ls = [optV (some (.flt opPut 0 (.no 2)))] ∧ Kept F w12 w') ?_ ?_
  · refine (ldF0 (hb12.kept hdd (by simp))).2 ?_
    rw [wrap64 (by omega) (by omega), show ((m : Int) + 1) = ((m + 1 : Nat) : Int) by omega]
    have fin : ∀ (fv vv lv : Value) (w' : World), SlT w' encF fv [⟨3, 0, a, b, m⟩] → SlT w' encV vv [⟨0, strEmpty, lv⟩] → SlT w' encS lv (List.replicate i (zs m) ++ [zs (m + 1)]) → Kept F w12 w' → xE Tryd.prog (sCall 16 #[fv, vv]) w' fun v140 w149 => xP Tryd.prog (sExtract v140 0) fun _ => xP Tryd.prog (sExtract v140 1) fun v142 =>
        (fun (ls : List Value) w' => ls = [optV (some (.flt opPut 0 (.no 2)))] ∧ Kept F w12 w') [v142] w149 := by
      intro fv vv lv w' hf hv hl hk'
      refine putS (vs := [⟨0, strEmpty, List.replicate i (zs m) ++ [zs (m + 1)]⟩]) hf hsh (by simp) hv (isRow_one ⟨rfl, rfl, hl⟩) (by simp) (by intro y hy; rw [List.mem_singleton.1 hy]; show (List.replicate i (zs m) ++ [zs (m + 1)]).length ≤ _; simp; omega) fun pv p er w'' hp hk'' hres => ?_
      rw [gramPut_one hrh, fits_h1, if_neg (by decide)] at hres
      obtain rfl : er = some (.flt opPut 0 (.no 2)) := by
        rcases hres with ⟨h1, h2⟩ | ⟨_, _, _, h1, h2, _⟩
        · cases h2
        · cases h2; exact h1
      simp only [xP_ex0, xP_ex1]
      exact ⟨trivial, hk'.then hk'' (by simp)⟩
    have st : ∀ (w' : World) (B : Prop), Kept F w12 w' → B → xStill Tryd.prog (sLoad 23 (.pointer (some ⟨U, 0, none⟩))) (vF ⟨3, 0, a, b, m⟩) w' B := fun w' B hk' hB => (stF0 (hb12.kept hk' hUF)).2 hB
    have hddF : Kept F w12 w12.drew := hdd.mono (by simp)
    have hoF := ho12.lt
    have hdz : w12.drew.heap.size = w12.heap.size := rfl
    have hod := ho12.kept hdd (by simp)
    have offF : ∀ (w' : World) (hz : w12.heap.size ≤ w'.heap.size), ∀ bb o n c, Value.slice (some ⟨w'.heap.size, 0, none⟩) 1 1 = .slice (some ⟨bb, o, none⟩) n c → bb ∉ F := fun w' hz bb o n c he hm => by cases he; have := hoF _ hm; omega
    refine ⟨?_, ?_⟩
    · refine oneFe fun w3 hf3 j3 => ?_
      refine mk0 (by omega) fun mv w4 hm4 j4 => ?_
      refine cv0 hm4 ?_
      refine oneS fun sv w5 hs5 j5 => ?_
      have j35 := j4.then j5 (by simp)
      have jd5 := j3.then j35 (by simp)
      refine appS (hod.kept jd5 (by simp)) hs5 (by rw [List.length_replicate]; omega) fun lv w6 F6 ho6 hF6 j6 => ?_
      have hl6 := ho6.slT encS_len (by omega)
      obtain ⟨la, lc, rfl, l1, l2⟩ := hl6
      refine (xP_build buildLV).2 ?_
      refine oneV (x := ⟨0, strEmpty, _⟩) fun vv w7 hv7 j7 => ?_
      exact fin _ vv _ w7 (((hf3.kept0 j35).kept j6 (offF w12.drew (by omega))).kept0 j7) hv7 (SlT.kept0 ⟨la, lc, rfl, l1, l2⟩ j7) (((hddF.then jd5 (by simp)).then j6 (fun g hg => .inl hg)).then j7 (by simp))
    refine mk0 (by omega) fun mv w3 hm3 j3 => ?_
    have d3 := hdd.then j3 (by simp)
    have k3 := hddF.then j3 (by simp)
    have z3 := j3.size
    refine st w3 _ k3 ⟨?_, ?_⟩
    · refine oneFe fun w4 hf4 j4 => ?_
      refine cv0 (hm3.kept0 j4) ?_
      refine oneS fun sv w5 hs5 j5 => ?_
      have j35 := j4.then j5 (by simp)
      refine appS (ho12.kept (d3.then j35 (by simp)) (by simp)) hs5 (by rw [List.length_replicate]; omega) fun lv w6 F6 ho6 hF6 j6 => ?_
      have hl6 := ho6.slT encS_len (by omega)
      obtain ⟨la, lc, rfl, l1, l2⟩ := hl6
      refine (xP_build buildLV).2 ?_
      refine oneV (x := ⟨0, strEmpty, _⟩) fun vv w7 hv7 j7 => ?_
      exact fin _ vv _ w7 (((hf4.kept0 j5).kept j6 (offF w3 (by omega))).kept0 j7) hv7 (SlT.kept0 ⟨la, lc, rfl, l1, l2⟩ j7) (((k3.then j35 (by simp)).then j6 (fun g hg => .inl hg)).then j7 (by simp))
    refine cv0 hm3 ?_
    refine st w3 _ k3 ⟨?_, ?_⟩
    · refine oneFe fun w4 hf4 j4 => ?_
      refine oneS fun sv w5 hs5 j5 => ?_
      have j35 := j4.then j5 (by simp)
      refine appS (ho12.kept (d3.then j35 (by simp)) (by simp)) hs5 (by rw [List.length_replicate]; omega) fun lv w6 F6 ho6 hF6 j6 => ?_
      have hl6 := ho6.slT encS_len (by omega)
      obtain ⟨la, lc, rfl, l1, l2⟩ := hl6
      refine (xP_build buildLV).2 ?_
      refine oneV (x := ⟨0, strEmpty, _⟩) fun vv w7 hv7 j7 => ?_
      exact fin _ vv _ w7 (((hf4.kept0 j5).kept j6 (offF w3 (by omega))).kept0 j7) hv7 (SlT.kept0 ⟨la, lc, rfl, l1, l2⟩ j7) (((k3.then j35 (by simp)).then j6 (fun g hg => .inl hg)).then j7 (by simp))
    refine oneS fun sv w4 hs4 j4 => ?_
    have d4 := d3.then j4 (by simp)
    have k4 := k3.then j4 (by simp)
    have z4 := j4.size
    refine st w4 _ k4 ⟨?_, ?_⟩
    · refine oneFe fun w5 hf5 j5 => ?_
      refine appS (ho12.kept (d4.then j5 (by simp)) (by simp)) (hs4.kept0 j5) (by rw [List.length_replicate]; omega) fun lv w6 F6 ho6 hF6 j6 => ?_
      have hl6 := ho6.slT encS_len (by omega)
      obtain ⟨la, lc, rfl, l1, l2⟩ := hl6
      refine (xP_build buildLV).2 ?_
      refine oneV (x := ⟨0, strEmpty, _⟩) fun vv w7 hv7 j7 => ?_
      exact fin _ vv _ w7 ((hf5.kept j6 (offF w4 (by omega))).kept0 j7) hv7 (SlT.kept0 ⟨la, lc, rfl, l1, l2⟩ j7) (((k4.then j5 (by simp)).then j6 (fun g hg => .inl hg)).then j7 (by simp))
    refine appS (ho12.kept d4 (by simp)) hs4 (by rw [List.length_replicate]; omega) fun lv w5 F5 ho5 hF5 j5 => ?_
    have hl5 := ho5.slT encS_len (by omega)
    obtain ⟨la, lc, rfl, l1, l2⟩ := hl5
    have hl5 : SlT w5 encS (.slice la (List.replicate i (zs m) ++ [zs (m + 1)]).length lc) (List.replicate i (zs m) ++ [zs (m + 1)]) := ⟨la, lc, rfl, l1, l2⟩
    have k5 := k4.then j5 (fun g hg => .inl hg)
    refine st w5 _ k5 ?_
    refine (xP_build buildLV).2 ⟨?_, ?_⟩
    · refine oneFe fun w6 hf6 j6 => ?_
      refine oneV (x := ⟨0, strEmpty, _⟩) fun vv w7 hv7 j7 => ?_
      exact fin _ vv _ w7 (hf6.kept0 j7) hv7 ((hl5.kept0 j6).kept0 j7) ((k5.then j6 (by simp)).then j7 (by simp))
    · refine oneV (x := ⟨0, strEmpty, _⟩) fun vv w6 hv6 j6 => ?_
      refine st w6 _ (k5.then j6 (by simp)) ?_
      refine oneFe fun w7 hf7 j7 => ?_
      exact fin _ vv _ w7 hf7 (hv6.kept0 j7) ((hl5.kept0 j6).kept0 j7) ((k5.then j6 (by simp)).then j7 (by simp))
  rintro _ _ w13 ⟨rfl, hk13⟩
  have hk013 := hk012.then hk13 (fun g hg => .inr (by have := hF9 g hg; have := hk08.size; omega))
  refine (ldF0 (hb12.kept hk13 hUF)).2 ?_
  refine oneF fun fv3 w14 hf14 hk14 => ?_
  rw [wrap64 (by omega) (by omega)]
  refine (xP_conv INT_3 INT_5).2 ?_
  rw [hcb]
  refine newBytes (l := [cb]) rfl (by omega) (by omega) rfl fun bv w15 F15 ho15 hF15 hk15 => ?_
  have hk015 := (hk013.then hk14 (by simp)).then hk15 (by simp)
  refine getS (hf14.kept0 hk15) hsh (by simp) (ownBytes (l := [cb]) ho15) (by simp) fun gv rg gs er2 w16 _ _ _ hk16 hres2 => ?_
  rw [get_h wa1 (show a ≤ b by omega) (by omega) (by omega) hcbn] at hres2
  obtain rfl : er2 = some (.flt opGet 0 (.no 2)) := by
    rcases hres2 with ⟨_, h2⟩ | ⟨_, _, _, h1, h2, _⟩
    · cases h2
    · cases h2; exact h1
  have hk016 := hk015.then hk16 (by simp)
  simp only [xP_ex0, xP_ex1, List.getD_cons_zero]
  refine kindFl (hgl.kept0 hk016) fun w17 hk17 => ?_
  have hk017 := hk016.then hk17 (by simp)
  simp only [xR_eql, decide_true, xIf_true]
  refine kindFl (hgl.kept0 hk017) fun w18 hk18 => ?_
  have hk018 := hk017.then hk18 (by simp)
  simp only [xR_eql, decide_true, xIf_true]
  exact runsG hgl hk018
end Go.Proofs.YtclojjiiiejfpaaDoor
