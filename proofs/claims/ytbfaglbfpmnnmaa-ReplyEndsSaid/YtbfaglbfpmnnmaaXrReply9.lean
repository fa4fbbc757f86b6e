import Derived.Test.YtbfaglbfpmnnmaaXrReply8
namespace Go.Proofs.Ytbfaglbfpmnnmaa
set_option linter.unusedSimpArgs false
set_option linter.unusedVariables false
open Go Go.X

theorem flatS_len {l : List ByteArray} : (l.flatMap encS).length = l.length := by rw [flat_len encS_len]; omega
set_option maxRecDepth 20000 in
theorem ends_ok {n m how : Int} {w : World} :
    Gives Try.prog 4 #[.int .i64 n, .int .i64 m, .int .i64 how] w fun u w' => u = .bool true ∧ Kept [] w w' := by
  refine C_stavelaw23_ReplyEnds ?_
  unfold S_stavelaw23_ReplyEnds
  obtain ⟨nb1, nb2⟩ := within_bd (n := n) (lo := 1) (hi := 8) (by omega)
  obtain ⟨mb1, mb2⟩ := within_bd (n := m) (lo := 1) (hi := 4) (by omega)
  obtain ⟨N, hN⟩ := Int.eq_ofNat_of_zero_le (show 0 ≤ within n 1 8 by omega)
  obtain ⟨M, hM⟩ := Int.eq_ofNat_of_zero_le (show 0 ≤ within m 1 4 by omega)
  rw [hN] at nb1 nb2
  rw [hM] at mb1 mb2
  refine (xP_build (cells := (encR ⟨4294967295, 255, 9223372036854775807, 9223372036854775807, .slice none 0 0, .slice none 0 0⟩).toArray) (by kernel_rfl)).2 ?_
  refine xE_alloc Z_28 fun w1 hb1 hk1 hz1 => ?_
  refine xE_storeN (l1 := []) (l2 := encR rawRp0) (l3 := []) SZ_28 hb1 rfl rfl rfl (by intro u hu; simp [encR, Value.cells] at hu; rcases hu with rfl | rfl | rfl | rfl <;> rfl) fun w2 hb2 hk2 hz2 => ?_
  have hk02 : Kept [] w w2 := hk1.trans hk2 (by simp) (by simp)
  have hb2' : Blk w2 w.heap.size 28 (encR ⟨4294967295, 255, 9223372036854775807, 9223372036854775807, .slice none 0 0, .slice none 0 0⟩) := by simpa [Value.cells] using hb2
  generalize eB : w.heap.size = B at *
  -- the names
  refine xLoop_of (fun vs w' => ∃ (i : Nat) (o : Value) (F : List Nat), vs = [.int .i64 i] ∧ i ≤ N ∧ Own w' 9 1 o i ((names0 i).flatMap encS) F ∧ (∀ g ∈ F, B + 1 ≤ g) ∧ o.oneCell' = true ∧ Blk w' B 28 (encR ⟨4294967295, 255, 9223372036854775807, 9223372036854775807, o, .slice none 0 0⟩) ∧ Kept [] w w')
    (fun vs _ => match vs with | [.int _ i] => N - i.toNat | _ => 0) ⟨0, .slice none 0 0, [], rfl, by omega, own_nil _ _ _, by simp, rfl, hb2', hk02⟩ ?_
  rintro _ _ w3 ⟨i, o, F, rfl, hi, ho, hF, hone, hb3, hk3⟩
  refine xE_call CF_8 (within_ok (by omega) (by omega) (by omega)) ?_
  rintro _ _ ⟨rfl, rfl⟩
  rw [hN]
  have hz3 := hk3.size
  have hBlt : B < w3.heap.size := hb3.lt
  simp only [xP_nil, xP_pick, xP_func, xP_not, xP_add, xP_sub, xP_mul, xP_lss, xP_leq, xP_gtr, xP_geq, xP_max2, xP_min2, xR_eql, xR_neq, Nat.zero_add, Nat.add_zero, Nat.reduceAdd, List.getD_cons_zero, List.getD_cons_succ, xIf_true, xIf_false, FA_28_0, FA_28_1, FA_28_2, FA_28_3, FA_28_4, FA_28_5, FA_33_0, FA_33_1, FA_54_0, FA_54_1, FA_54_2, FA_64_0, FA_64_1, FA_64_2, FA_66_0, FA_66_1, FA_66_2, FA_66_3, FA_66_4, LEN_22, LEN_25, LEN_26, LEN_47, LEN_50, LEN_81, xIf_dec]
  refine ⟨fun hlt => ?_, fun hge => ?_⟩
  · have hkd : Kept [] w3 w3.drew := keptd
    obtain ⟨L0, L1, L2, L3, L4, L5, L6⟩ := ldR (hb3.kept hkd (by simp))
    simp only [L4]
    refine xE_make EL_22 (l := 24) (by omega) (by unfold maxLen; omega) fun w4 hb4 hk4 hz4 => ?_
    have hk34 : Kept [] w3 w4 := hkd.then hk4 (by simp)
    have b4 := hb3.kept hk34 (by simp)
    refine (still1 ONE_25 (v := o) (b4.cell (o := 4))).2 ?_
    have hsl : SlT w4 encB (.slice (some ⟨w3.drew.heap.size, 0, none⟩) 24 24) (List.replicate 24 0) := ⟨some ⟨w3.drew.heap.size, 0, none⟩, 24, by rw [List.length_replicate], by rw [List.length_replicate]; exact Nat.le_refl _, .inr ⟨_, _, rfl, by rw [zeros_flat]; exact hb4.at⟩⟩
    refine (xE_toStr BYT STR hsl).2 ?_
    refine (still1 ONE_25 (v := o) (b4.cell (o := 4))).2 ?_
    refine xE_buildSlice EL_25 [.string (zs 24)] rfl rfl (by simp [Value.cells]) (by omega) (by omega) fun w5 hb5 hk5 hz5 => ?_
    have hk35 : Kept [] w3 w5 := hk34.then hk5 (by simp)
    have hz35 := hk35.size
    have b5 := hb3.kept hk35 (by simp)
    refine (still1 ONE_25 (v := o) (b5.cell (o := 4))).2 ?_
    have hat : At w5 w4.heap.size 0 ([zs 24].flatMap encS) := hb5.at
    refine xE_append (m := 1) EL_25 (ho.kept hk35 (by simp)) hat rfl (by simp [encS]; rfl) (by omega) (by unfold maxLen; omega) (by omega) fun o' w6 F' ho' hk6 hF' hone' => ?_
    have hz6 := hk6.size
    have b6 := b5.kept hk6 (fun hm => by have := hF _ hm; omega)
    refine xE_store1 SZ_25 b6 (by simp [encR]) hone' fun w7 hb7 hk7 hz7 => ?_
    rw [wrap64 (by omega) (by omega)]
    have hF2 : ∀ g ∈ F', B + 1 ≤ g := fun g hg => (hF' g hg).elim (hF g) (fun h => by omega)
    refine ⟨⟨i + 1, o', F', rfl, by omega, ?_, hF2, hone', by simpa [encR] using hb7, ((hk3.then hk35 (by simp)).then hk6 (fun g hg => .inr (by have := hF g hg; omega))).then hk7 (by intro k hk; simp at hk; subst hk; exact .inr (by omega))⟩, by omega⟩
    have : names0 (i + 1) = names0 i ++ [zs 24] := by unfold names0; rw [List.replicate_succ']
    rw [this, List.flatMap_append]
    exact ho'.kept hk7 (fun g hg hm => by have := hF2 g hg; simp at hm; omega)
  · obtain rfl : i = N := by omega
    have hNlen : (names0 i).length = i := by simp [names0]
    have hnames3 : SlT w3 encS o (names0 i) := by
      have h := ho
      rw [← hNlen] at h
      rw [hNlen] at h
      have h' : Own w3 9 1 o (names0 i).length ((names0 i).flatMap encS) F := by rw [hNlen]; exact ho
      exact h'.slT encS_len (by omega)
    -- the batches
    refine xLoop_of (fun vs w' => ∃ (j : Nat) (o2 : Value) (F2 : List Nat), vs = [.int .i64 j] ∧ j ≤ M ∧ Own w' 33 2 o2 j ((bats0 j).flatMap encT) F2 ∧ (∀ g ∈ F2, w3.heap.size ≤ g) ∧ o2.oneCell' = true ∧ Blk w' B 28 (encR ⟨4294967295, 255, 9223372036854775807, 9223372036854775807, o, o2⟩) ∧ Kept [B] w3 w')
      (fun vs _ => match vs with | [.int _ j] => M - j.toNat | _ => 0) ⟨0, .slice none 0 0, [], rfl, by omega, own_nil _ _ _, by simp, rfl, hb3, Kept.refl _ _⟩ ?_
    rintro _ _ w4 ⟨j, o2, F2, rfl, hj, ho2, hF2, hone2, hb4, hk34⟩
    refine xE_call CF_8 (within_ok (by omega) (by omega) (by omega)) ?_
    rintro _ _ ⟨rfl, rfl⟩
    rw [hM]
    have hz34 := hk34.size
    simp only [xP_nil, xP_pick, xP_func, xP_not, xP_add, xP_sub, xP_mul, xP_lss, xP_leq, xP_gtr, xP_geq, xP_max2, xP_min2, xR_eql, xR_neq, Nat.zero_add, Nat.add_zero, Nat.reduceAdd, List.getD_cons_zero, List.getD_cons_succ, xIf_true, xIf_false, FA_28_0, FA_28_1, FA_28_2, FA_28_3, FA_28_4, FA_28_5, FA_33_0, FA_33_1, FA_54_0, FA_54_1, FA_54_2, FA_64_0, FA_64_1, FA_64_2, FA_66_0, FA_66_1, FA_66_2, FA_66_3, FA_66_4, LEN_22, LEN_25, LEN_26, LEN_47, LEN_50, LEN_81, xIf_dec]
    refine ⟨fun hlt => ?_, fun hge2 => ?_⟩
    · have hkd : Kept [] w4 w4.drew := keptd
      obtain ⟨L0, L1, L2, L3, L4, L5, L6⟩ := ldR (hb4.kept hkd (by simp))
      simp only [L5]
      refine xE_make EL_22 (l := 600) (by omega) (by unfold maxLen; omega) fun w5 hb5 hk5 hz5 => ?_
      have hk45 : Kept [] w4 w5 := hkd.then hk5 (by simp)
      have b5 := hb4.kept hk45 (by simp)
      refine (still1 ONE_26 (v := o2) (b5.cell (o := 5))).2 ?_
      have hsl : SlT w5 encB (.slice (some ⟨w4.drew.heap.size, 0, none⟩) 600 600) (List.replicate 600 0) := ⟨some ⟨w4.drew.heap.size, 0, none⟩, 600, by rw [List.length_replicate], by rw [List.length_replicate]; exact Nat.le_refl _, .inr ⟨_, _, rfl, by rw [zeros_flat]; exact hb5.at⟩⟩
      refine (xE_toStr BYT STR hsl).2 ?_
      refine (still1 ONE_26 (v := o2) (b5.cell (o := 5))).2 ?_
      refine (xP_build (cells := (encT (9223372036854775807, zs 600)).toArray) (by kernel_rfl)).2 ?_
      refine xE_buildSlice EL_26 [vT (9223372036854775807, zs 600)] rfl rfl (by simp [vT, encT, Value.cells]) (by omega) (by omega) fun w6 hb6 hk6 hz6 => ?_
      have hk46 : Kept [] w4 w6 := hk45.then hk6 (by simp)
      have hz46 := hk46.size
      have b6 := hb4.kept hk46 (by simp)
      refine (still1 ONE_26 (v := o2) (b6.cell (o := 5))).2 ?_
      have hat : At w6 w5.heap.size 0 ([((9223372036854775807 : Int), zs 600)].flatMap encT) := by
        have := hb6.at
        simpa [vT, Value.cells] using this
      refine xE_append (m := 1) EL_26 (ho2.kept hk46 (by simp)) hat rfl (by intro u hu; simp at hu; exact encT_one _ u hu) (by omega) (by unfold maxLen; omega) (by omega) fun o' w7 F' ho' hk7 hF' hone' => ?_
      have hz7 := hk7.size
      have b7 := b6.kept hk7 (fun hm => by have := hF2 _ hm; omega)
      refine xE_store1 SZ_26 b7 (by simp [encR]) hone' fun w8 hb8 hk8 hz8 => ?_
      rw [wrap64 (by omega) (by omega)]
      have hF3 : ∀ g ∈ F', w3.heap.size ≤ g := fun g hg => (hF' g hg).elim (hF2 g) (fun h => by omega)
      refine ⟨⟨j + 1, o', F', rfl, by omega, ?_, hF3, hone', by simpa [encR] using hb8, ((hk34.then hk46 (by simp)).then hk7 (fun g hg => .inr (hF2 g hg))).then hk8 (by simp)⟩, by omega⟩
      have : bats0 (j + 1) = bats0 j ++ [(9223372036854775807, zs 600)] := by unfold bats0; rw [List.replicate_succ']
      rw [this, List.flatMap_append]
      exact ho'.kept hk8 (fun g hg hm => by have := hF3 g hg; simp at hm; omega)
    · obtain rfl : j = M := by omega
      have hMlen : (bats0 j).length = j := by simp [bats0]
      have hbats4 : SlT w4 encT o2 (bats0 j) := by
        have h' : Own w4 33 2 o2 (bats0 j).length ((bats0 j).flatMap encT) F2 := by rw [hMlen]; exact ho2
        exact h'.slT encT_len (by omega)
      have hnames4 : SlT w4 encS o (names0 i) := hnames3.kept hk34 (fun bb oo n cc he hm => by
        have := hF _ (ho.addr bb oo n cc he)
        simp at hm
        omega)
      obtain ⟨X, eX⟩ : ∃ X : RawRp, X = ⟨4294967295, 255, 9223372036854775807, 9223372036854775807, o, o2⟩ := ⟨_, rfl⟩
      rw [← eX] at hb4
      have hX4 : IsRp w4 X (end0 i j) := by subst eX; exact ⟨rfl, rfl, rfl, rfl, hnames4, hbats4⟩
      have hok0 : okRp (end0 i j) := fit_ok ((rp_right _).1 (end0_right (by omega) (by omega))).1
      have hk04 : Kept [] w w4 := hk3.then hk34 (by intro k hk; simp at hk; subst hk; exact .inr (by omega))
      obtain ⟨na, nc, hnv, hnc, -⟩ := hnames4
      obtain ⟨ta, tc, htv, htc, -⟩ := hbats4
      rw [hNlen] at hnv hnc
      rw [hMlen] at htv htc
      have hXn : X.nv = .slice na i nc := by subst eX; exact hnv
      have hXb : X.bv = .slice ta j tc := by subst eX; exact htv
      have hXs : X.corr = 4294967295 ∧ X.err = 255 ∧ X.base = 9223372036854775807 ∧ X.next = 9223372036854775807 := by subst eX; exact ⟨rfl, rfl, rfl, rfl⟩
      clear hk34 hnames3 ho ho2 hF hF2 eX hb3
      refine xJoin_of (fun vs w' => vs = [.bool false] ∧ Blk w' B 28 (encR X) ∧ Kept [] w4 w') ?_ ?_
      · have hkd : Kept [] w4 w4.drew := keptd
        obtain ⟨L0, L1, L2, L3, L4, L5, L6⟩ := ldR (hb4.kept hkd (by simp))
        simp only [L6]
        refine xE_call CF_9 (rright_ok (hX4.kept0 hkd) hok0) ?_
        rintro _ w5 ⟨rfl, hk5⟩
        have hk45 : Kept [] w4 w5 := hkd.then hk5 (by simp)
        have b5 := hb4.kept hk45 (by simp)
        obtain ⟨M0, M1, M2, M3, M4, M5, M6⟩ := ldR b5
        rw [end0_right (by omega) (by omega)]
        simp only [xP_nil, xP_pick, xP_func, xP_not, xP_add, xP_sub, xP_mul, xP_lss, xP_leq, xP_gtr, xP_geq, xP_max2, xP_min2, xR_eql, xR_neq, Nat.zero_add, Nat.add_zero, Nat.reduceAdd, List.getD_cons_zero, List.getD_cons_succ, xIf_true, xIf_false, FA_28_0, FA_28_1, FA_28_2, FA_28_3, FA_28_4, FA_28_5, FA_33_0, FA_33_1, FA_54_0, FA_54_1, FA_54_2, FA_64_0, FA_64_1, FA_64_2, FA_66_0, FA_66_1, FA_66_2, FA_66_3, FA_66_4, LEN_22, LEN_25, LEN_26, LEN_47, LEN_50, LEN_81, Bool.not_true, M4, M5, M6, hXn, hXb]
        rw [wrap64 (x := 26 * (i : Int)) (by omega) (by omega), wrap64 (x := 23 + 26 * (i : Int)) (by omega) (by omega), wrap64 (x := 610 * (j : Int)) (by omega) (by omega), wrap64 (x := 23 + 26 * (i : Int) + 610 * (j : Int)) (by omega) (by omega)]
        refine xE_call CF_6 (rPut_ok (hX4.kept0 hk45) hok0) ?_
        rintro u w6 ⟨F6, ho6, hF6, hk6⟩
        have b6 := b5.kept hk6 (by simp)
        refine (still1 ONE_26 (v := .slice ta j tc) (by rw [← hXb]; exact b6.cell (o := 5))).2 ?_
        refine (still1 ONE_25 (v := .slice na i nc) (by rw [← hXn]; exact b6.cell (o := 4))).2 ?_
        obtain ⟨ua, uc, rfl, -, -⟩ := ho6.slice
        simp only [xP_nil, xP_pick, xP_func, xP_not, xP_add, xP_sub, xP_mul, xP_lss, xP_leq, xP_gtr, xP_geq, xP_max2, xP_min2, xR_eql, xR_neq, Nat.zero_add, Nat.add_zero, Nat.reduceAdd, List.getD_cons_zero, List.getD_cons_succ, xIf_true, xIf_false, FA_28_0, FA_28_1, FA_28_2, FA_28_3, FA_28_4, FA_28_5, FA_33_0, FA_33_1, FA_54_0, FA_54_1, FA_54_2, FA_64_0, FA_64_1, FA_64_2, FA_66_0, FA_66_1, FA_66_2, FA_66_3, FA_66_4, LEN_22, LEN_25, LEN_26, LEN_47, LEN_50, LEN_81]
        refine ⟨?_, b6, hk45.then hk6 (by simp)⟩
        rw [end0_len (by omega) (by omega), decide_eq_false (by simp)]
      rintro _ _ w5 ⟨rfl, hb5, hk45⟩
      simp only [xP_nil, xP_pick, xP_func, xP_not, xP_add, xP_sub, xP_mul, xP_lss, xP_leq, xP_gtr, xP_geq, xP_max2, xP_min2, xR_eql, xR_neq, Nat.zero_add, Nat.add_zero, Nat.reduceAdd, List.getD_cons_zero, List.getD_cons_succ, xIf_true, xIf_false, FA_28_0, FA_28_1, FA_28_2, FA_28_3, FA_28_4, FA_28_5, FA_33_0, FA_33_1, FA_54_0, FA_54_1, FA_54_2, FA_64_0, FA_64_1, FA_64_2, FA_66_0, FA_66_1, FA_66_2, FA_66_3, FA_66_4, LEN_22, LEN_25, LEN_26, LEN_47, LEN_50, LEN_81]
      obtain ⟨L0, L1, L2, L3, L4, L5, L6⟩ := ldR hb5
      simp only [L6]
      have hX5 := hX4.kept0 hk45
      have hk05 : Kept [] w w5 := hk04.then hk45 (by simp)
      refine xE_alloc Z_28 fun w6 hb6 hk6 hz6 => ?_
      refine xE_storeN (l1 := []) (l2 := encR rawRp0) (l3 := []) SZ_28 hb6 rfl rfl rfl hX5.one fun w7 hb7 hk7 hz7 => ?_
      have hb7' : Blk w7 w5.heap.size 28 (encR X) := by simpa [vR, Value.cells] using hb7
      have hk57 : Kept [] w5 w7 := hk6.trans hk7 (by simp) (by simp)
      have hz57 : w7.heap.size = w5.heap.size + 1 := by omega
      have hk07 : Kept [] w w7 := hk05.then hk57 (by simp)
      have hX7 := hX5.kept0 hk57
      have hzw := hk05.size
      have hw0 : w.heap.size = B := eB
      generalize eC : w5.heap.size = C at *
      have stX : ∀ {w' : World}, Kept [] w7 w' → w'.cell? ⟨C, 5, none⟩ = some (.slice ta j tc) ∧ w'.cell? ⟨C, 4, none⟩ = some (.slice na i nc) := fun hk => by
        have b := hb7'.kept hk (by simp)
        exact ⟨by rw [← hXb]; exact b.cell (o := 5), by rw [← hXn]; exact b.cell (o := 4)⟩
      have hbB7 : Blk w7 B 28 (encR X) := hb5.kept hk57 (by simp)
      have stB : ∀ {w' : World} {M : List Nat}, Kept M w7 w' → (∀ g ∈ M, C + 1 ≤ g) → w'.cell? ⟨B, 5, none⟩ = some (.slice ta j tc) ∧ w'.cell? ⟨B, 4, none⟩ = some (.slice na i nc) := fun hk hM => by
        have b := hbB7.kept hk (fun hm => by have := hM B hm; omega)
        exact ⟨by rw [← hXb]; exact b.cell (o := 5), by rw [← hXn]; exact b.cell (o := 4)⟩
      have hSN : ∀ {w' : World} {M : List Nat}, Kept M w7 w' → (∀ g ∈ M, C + 1 ≤ g) → Src Try.prog 1 25 (.slice na i nc) i ((names0 i).flatMap encS) w' := fun {w'} {M} hk hM => by
        have h1 : SlT w' encS (.slice na i nc) (names0 i) := by rw [← hXn]; exact SlT.keptNew hX7.names hX7.names hk (fun g hg => by have := hM g hg; omega)
        have := Src.ofSlT (P := Try.prog) USL h1 encS_len encS_one
        rw [hNlen] at this
        exact this
      have hSB : ∀ {w' : World} {M : List Nat}, Kept M w7 w' → (∀ g ∈ M, C + 1 ≤ g) → Src Try.prog 2 26 (.slice ta j tc) j ((bats0 j).flatMap encT) w' := fun {w'} {M} hk hM => by
        have h1 : SlT w' encT (.slice ta j tc) (bats0 j) := by rw [← hXb]; exact SlT.keptNew hX7.batches hX7.batches hk (fun g hg => by have := hM g hg; omega)
        have := Src.ofSlT (P := Try.prog) UFL h1 encT_len encT_one
        rw [hMlen] at this
        exact this
      refine xJoin_of (fun _ w' => ∃ (nv' bv' : Value) (F' G' : List Nat), Blk w' C 28 (encR { X with nv := nv', bv := bv' }) ∧ Own w' 9 1 nv' i ((names0 i).flatMap encS) F' ∧ Own w' 33 2 bv' j ((bats0 j).flatMap encT) G' ∧
        (∀ g ∈ F', C + 1 ≤ g) ∧ (∀ g ∈ G', C + 1 ≤ g) ∧ (∀ g ∈ F', g ∉ G') ∧ nv'.oneCell' = true ∧ bv'.oneCell' = true ∧ Kept [] w w') ?_ ?_
      · have hkd : Kept [] w7 w7.drew := keptd
        have hsd : w7.drew.heap.size = w7.heap.size := rfl
        obtain ⟨c5, c4⟩ := stB hkd (by simp)
        simp only [xP_nil, xP_pick, xP_func, xP_not, xP_add, xP_sub, xP_mul, xP_lss, xP_leq, xP_gtr, xP_geq, xP_max2, xP_min2, xR_eql, xR_neq, Nat.zero_add, Nat.add_zero, Nat.reduceAdd, List.getD_cons_zero, List.getD_cons_succ, xIf_true, xIf_false, FA_28_0, FA_28_1, FA_28_2, FA_28_3, FA_28_4, FA_28_5, FA_33_0, FA_33_1, FA_54_0, FA_54_1, FA_54_2, FA_64_0, FA_64_1, FA_64_2, FA_66_0, FA_66_1, FA_66_2, FA_66_3, FA_66_4, LEN_22, LEN_25, LEN_26, LEN_47, LEN_50, LEN_81]
        refine (ld1 ONE_25 c4).2 ?_
        refine (ld1 ONE_26 c5).2 ?_
        -- the two stores
        have fin : ∀ (w' : World) (nv' bv' : Value) (F' G' M : List Nat), Kept M w7 w' → (∀ g ∈ M, C + 1 ≤ g) → Own w' 9 1 nv' i ((names0 i).flatMap encS) F' → Own w' 33 2 bv' j ((bats0 j).flatMap encT) G' →
            (∀ g ∈ F', C + 1 ≤ g) → (∀ g ∈ G', C + 1 ≤ g) → (∀ g ∈ F', g ∉ G') → nv'.oneCell' = true → bv'.oneCell' = true →
            xE Try.prog (sStore 25 (.pointer (some ⟨C, 4, none⟩)) nv') w' fun _ w87 => xE Try.prog (sStore 26 (.pointer (some ⟨C, 5, none⟩)) bv') w87 fun _ w' => ∃ (nv' bv' : Value) (F' G' : List Nat), Blk w' C 28 (encR { X with nv := nv', bv := bv' }) ∧ Own w' 9 1 nv' i ((names0 i).flatMap encS) F' ∧ Own w' 33 2 bv' j ((bats0 j).flatMap encT) G' ∧
        (∀ g ∈ F', C + 1 ≤ g) ∧ (∀ g ∈ G', C + 1 ≤ g) ∧ (∀ g ∈ F', g ∉ G') ∧ nv'.oneCell' = true ∧ bv'.oneCell' = true ∧ Kept [] w w' := by
          intro w' nv' bv' F' G' M hk hM ho hg hF hG hd h1 h2
          have b := hb7'.kept hk (fun hm => by have := hM C hm; omega)
          refine xE_store1 SZ_25 b (by simp [encR]) h1 fun w8 hb8 hk8 hz8 => ?_
          refine xE_store1 SZ_26 hb8 (by simp [encR]) h2 fun w9 hb9 hk9 hz9 => ?_
          have hk89 : Kept [C] w' w9 := hk8.then hk9 (by simp)
          exact ⟨nv', bv', F', G', by simpa [encR] using hb9, ho.kept hk89 (fun g hg hm => by have := hF g hg; simp at hm; omega), hg.kept hk89 (fun g hg hm => by have := hG g hg; simp at hm; omega), hF, hG, hd, h1, h2, (hk07.then hk (fun g hg => .inr (by have := hM g hg; omega))).then hk89 (by intro k hk; simp at hk; subst hk; exact .inr (by omega))⟩
        refine ⟨?_, ?_⟩
        · refine xE_slice0 EL_25 fun w8 ho8 hk8 hz8 => ?_
          have k8 : Kept [] w7 w8 := hkd.then hk8 (by simp)
          obtain ⟨c5, c4⟩ := stB k8 (by simp)
          refine (still1 ONE_26 c5).2 ?_
          refine (still1 ONE_25 c4).2 ?_
          refine ⟨?_, ?_⟩
          · refine xE_appendSrc EL_25 ho8 (hSN k8 (by simp)) (by omega) (by unfold maxLen; omega) fun nv' w9 F' ho9 hk9 hF9 h1 => ?_
            have hM9 : ∀ g ∈ [w7.drew.heap.size], C + 1 ≤ g := by intro g hg; simp at hg; omega
            have k9 : Kept [w7.drew.heap.size] w7 w9 := (k8.mono (by simp)).then hk9 (by simp)
            have hz9 := hk9.size
            have hF9' : ∀ g ∈ F', C + 1 ≤ g := fun g hg => (hF9 g hg).elim (hM9 g) (fun h => by omega)
            obtain ⟨c5, c4⟩ := stB k9 hM9
            refine (still1 ONE_26 c5).2 ?_
            refine xE_slice0 EL_26 fun w10 ho10 hk10 hz10 => ?_
            have k10 : Kept [w7.drew.heap.size] w7 w10 := k9.then hk10 (by simp)
            obtain ⟨c5, c4⟩ := stB k10 hM9
            refine (still1 ONE_26 c5).2 ?_
            have hlt9 := ho9.lt
            refine xE_appendSrc EL_26 ho10 (hSB k10 hM9) (by omega) (by unfold maxLen; omega) fun bv' w11 G' ho11 hk11 hG11 h2 => ?_
            rw [Nat.zero_add, List.nil_append] at ho9 ho11
            have hdis : ∀ g ∈ F', g ∉ [w9.heap.size] := fun g hg hm => by have := hlt9 g hg; simp at hm; omega
            refine fin w11 nv' bv' F' G' [w7.drew.heap.size, w9.heap.size] ((k10.mono (by simp)).then hk11 (by simp)) (by intro g hg; simp at hg; omega) ((ho9.kept hk10 (by simp)).kept hk11 hdis) ho11 hF9' (fun g hg => (hG11 g hg).elim (fun h => by simp at h; omega) (fun h => by omega)) (fun g hg hm => by
              have := hlt9 g hg
              rcases hG11 g hm with h | h
              · simp at h; omega
              · omega) h1 h2
          · refine xE_slice0 EL_26 fun w9 ho9 hk9 hz9 => ?_
            have k9 : Kept [] w7 w9 := k8.then hk9 (by simp)
            obtain ⟨c5, c4⟩ := stB k9 (by simp)
            refine (still1 ONE_26 c5).2 ?_
            refine (still1 ONE_25 c4).2 ?_
            refine xE_appendSrc EL_25 (ho8.kept hk9 (by simp)) (hSN k9 (by simp)) (by omega) (by unfold maxLen; omega) fun nv' w10 F' ho10 hk10 hF10 h1 => ?_
            have hM9 : ∀ g ∈ [w7.drew.heap.size], C + 1 ≤ g := by intro g hg; simp at hg; omega
            have k10 : Kept [w7.drew.heap.size] w7 w10 := (k9.mono (by simp)).then hk10 (by simp)
            have hz10 := hk10.size
            obtain ⟨c5, c4⟩ := stB k10 hM9
            refine (still1 ONE_26 c5).2 ?_
            have hlt10 := ho10.lt
            refine xE_appendSrc EL_26 (ho9.kept hk10 (by simp; omega)) (hSB k10 hM9) (by omega) (by unfold maxLen; omega) fun bv' w11 G' ho11 hk11 hG11 h2 => ?_
            rw [Nat.zero_add, List.nil_append] at ho10 ho11
            have hdis : ∀ g ∈ F', g ∉ [w8.heap.size] := fun g hg hm => by
              simp at hm
              rcases hF10 g hg with h | h
              · simp at h; omega
              · omega
            refine fin w11 nv' bv' F' G' [w7.drew.heap.size, w8.heap.size] ((k10.mono (by simp)).then hk11 (by simp)) (by intro g hg; simp at hg; omega) (ho10.kept hk11 hdis) ho11 (fun g hg => (hF10 g hg).elim (hM9 g) (fun h => by omega)) (fun g hg => (hG11 g hg).elim (fun h => by simp at h; omega) (fun h => by omega)) (fun g hg hm => by
              have := hlt10 g hg
              rcases hG11 g hm with h | h
              · exact hdis g hg h
              · omega) h1 h2
        · refine xE_slice0 EL_26 fun w8 ho8 hk8 hz8 => ?_
          have k8 : Kept [] w7 w8 := hkd.then hk8 (by simp)
          obtain ⟨c5, c4⟩ := stB k8 (by simp)
          refine (still1 ONE_26 c5).2 ?_
          refine (still1 ONE_25 c4).2 ?_
          refine xE_slice0 EL_25 fun w9 ho9 hk9 hz9 => ?_
          have k9 : Kept [] w7 w9 := k8.then hk9 (by simp)
          obtain ⟨c5, c4⟩ := stB k9 (by simp)
          refine (still1 ONE_26 c5).2 ?_
          refine (still1 ONE_25 c4).2 ?_
          refine xE_appendSrc EL_25 ho9 (hSN k9 (by simp)) (by omega) (by unfold maxLen; omega) fun nv' w10 F' ho10 hk10 hF10 h1 => ?_
          have hM9 : ∀ g ∈ [w8.heap.size], C + 1 ≤ g := by intro g hg; simp at hg; omega
          have k10 : Kept [w8.heap.size] w7 w10 := (k9.mono (by simp)).then hk10 (by simp)
          have hz10 := hk10.size
          obtain ⟨c5, c4⟩ := stB k10 hM9
          refine (still1 ONE_26 c5).2 ?_
          have hlt10 := ho10.lt
          refine xE_appendSrc EL_26 ((ho8.kept hk9 (by simp)).kept hk10 (by simp; omega)) (hSB k10 hM9) (by omega) (by unfold maxLen; omega) fun bv' w11 G' ho11 hk11 hG11 h2 => ?_
          rw [Nat.zero_add, List.nil_append] at ho10 ho11
          have hdis : ∀ g ∈ F', g ∉ [w7.drew.heap.size] := fun g hg hm => by
            simp at hm
            rcases hF10 g hg with h | h
            · simp at h; omega
            · omega
          refine fin w11 nv' bv' F' G' [w8.heap.size, w7.drew.heap.size] ((k10.mono (by simp)).then hk11 (by simp)) (by intro g hg; simp at hg; omega) (ho10.kept hk11 hdis) ho11 (fun g hg => (hF10 g hg).elim (hM9 g) (fun h => by omega)) (fun g hg => (hG11 g hg).elim (fun h => by simp at h; omega) (fun h => by omega)) (fun g hg hm => by
            have := hlt10 g hg
            rcases hG11 g hm with h | h
            · exact hdis g hg h
            · omega) h1 h2
      rintro _ _ w8 ⟨nv, bv, F, G, hb8, hon, hob, hF, hG, hFG, h1, h2, hk08⟩
      have hsN : ∀ {w' : World} {l : List ByteArray}, l.length = i → Own w' 9 1 nv i (l.flatMap encS) F → SlT w' encS nv l := fun hl ho => by
        rw [← hl] at ho
        exact ho.slT encS_len (by omega)
      have hsB : ∀ {w' : World} {l : List (Int × ByteArray)}, l.length = j → Own w' 33 2 bv j (l.flatMap encT) G → SlT w' encT bv l := fun hl ho => by
        rw [← hl] at ho
        exact ho.slT encT_len (by omega)
      have hz8 := hk08.size
      have hC8 : C < w8.heap.size := hb8.lt
      refine xJoin_of (fun _ w' => ∃ (Y : RawRp) (r : Rp), Blk w' C 28 (encR Y) ∧ IsRp w' Y r ∧ Turned i j r ∧ Kept [] w w') ?_ ?_
      · refine xE_call CF_8 (within_ok (by omega) (by omega) (by omega)) ?_
        rintro _ _ ⟨rfl, rfl⟩
        obtain ⟨hb1, hb2⟩ := within_bd (n := how) (lo := 0) (hi := 6) (by omega)
        generalize within how 0 6 = q at *
        obtain ⟨L0, L1, L2, L3, L4, L5, L6⟩ := ldR hb8
        obtain ⟨x1, x2, x3, x4⟩ := hXs
        have hkd : Kept [] w8 w8.drew := keptd
        have b8d := hb8.kept hkd (by simp)
        have hkC : ∀ {w' : World}, Kept [C] w8 w' → Kept [] w w' := fun hk => hk08.then hk (by intro k hk; simp at hk; subst hk; exact .inr (by omega))
        have kN : ∀ {w' : World}, Kept [C] w8 w' → Own w' 9 1 nv i ((names0 i).flatMap encS) F := fun hk => hon.kept hk (fun g hg hm => by have := hF g hg; simp at hm; omega)
        have kB : ∀ {w' : World}, Kept [C] w8 w' → Own w' 33 2 bv j ((bats0 j).flatMap encT) G := fun hk => hob.kept hk (fun g hg hm => by have := hG g hg; simp at hm; omega)
        obtain ⟨sa, sc, hnvs, hsc, -⟩ := hon.slice
        obtain ⟨ra, rc, hbvs, hrc, -⟩ := hob.slice
        have zsl : ∀ (k : Nat) {w' : World} {b : Nat}, Blk w' b 5 (List.replicate k (.int .u8 0)) → SlT w' encB (.slice (some ⟨b, 0, none⟩) k k) (List.replicate k 0) := fun k w' b hb => ⟨some ⟨b, 0, none⟩, k, by rw [List.length_replicate], by rw [List.length_replicate]; exact Nat.le_refl _, .inr ⟨_, _, rfl, by rw [zeros_flat]; exact hb.at⟩⟩
        simp only [xP_nil, xP_pick, xP_func, xP_not, xP_add, xP_sub, xP_mul, xP_lss, xP_leq, xP_gtr, xP_geq, xP_max2, xP_min2, xR_eql, xR_neq, Nat.zero_add, Nat.add_zero, Nat.reduceAdd, List.getD_cons_zero, List.getD_cons_succ, xIf_true, xIf_false, FA_28_0, FA_28_1, FA_28_2, FA_28_3, FA_28_4, FA_28_5, FA_33_0, FA_33_1, FA_54_0, FA_54_1, FA_54_2, FA_64_0, FA_64_1, FA_64_2, FA_66_0, FA_66_1, FA_66_2, FA_66_3, FA_66_4, LEN_22, LEN_25, LEN_26, LEN_47, LEN_50, LEN_81, L0, L1, xIf_dec, x1, x2]
        refine ⟨fun _ => ?_, fun n0 => ⟨fun _ => ?_, fun n1 => ⟨fun _ => ?_, fun n2 => ⟨fun _ => ?_, fun n3 => ⟨fun _ => ?_, fun n4 => ⟨fun _ => ?_, fun n5 => ⟨fun _ => ?_, fun n6 => ?_⟩⟩⟩⟩⟩⟩⟩
        · rw [wrap64 (by omega) (by omega)]
          refine xE_store1 SZ_3 hb8 (by simp [encR]) rfl fun w9 hb9 hk9 hz9 => ?_
          exact ⟨⟨4294967296, X.err, X.base, X.next, nv, bv⟩, _, by simpa [encR] using hb9, ⟨rfl, x2, x3, x4, hsN hNlen (kN hk9), hsB hMlen (kB hk9)⟩, .corr, hkC hk9⟩
        · rw [wrap64 (by omega) (by omega)]
          refine xE_store1 SZ_24 hb8 (by simp [encR]) rfl fun w9 hb9 hk9 hz9 => ?_
          exact ⟨⟨X.corr, 256, X.base, X.next, nv, bv⟩, _, by simpa [encR] using hb9, ⟨x1, rfl, x3, x4, hsN hNlen (kN hk9), hsB hMlen (kB hk9)⟩, .err, hkC hk9⟩
        · refine xE_store1 SZ_3 hb8 (by simp [encR]) rfl fun w9 hb9 hk9 hz9 => ?_
          exact ⟨⟨X.corr, X.err, -1, X.next, nv, bv⟩, _, by simpa [encR] using hb9, ⟨x1, x2, rfl, x4, hsN hNlen (kN hk9), hsB hMlen (kB hk9)⟩, .base, hkC hk9⟩
        · refine xE_store1 SZ_3 hb8 (by simp [encR]) rfl fun w9 hb9 hk9 hz9 => ?_
          exact ⟨⟨X.corr, X.err, X.base, -1, nv, bv⟩, _, by simpa [encR] using hb9, ⟨x1, x2, x3, rfl, hsN hNlen (kN hk9), hsB hMlen (kB hk9)⟩, .next, hkC hk9⟩
        · refine (ld1 ONE_25 (v := nv) (b8d.cell (o := 4))).2 ?_
          refine xE_make EL_22 (l := 25) (by omega) (by unfold maxLen; omega) fun w9 hb9 hk9 hz9 => ?_
          have k9 : Kept [] w8 w9 := hkd.then hk9 (by simp)
          refine (still1 ONE_25 (v := nv) ((hb8.kept k9 (by simp)).cell (o := 4))).2 ?_
          refine (xE_toStr BYT STR (zsl 25 hb9)).2 ?_
          refine (still1 ONE_25 (v := nv) ((hb8.kept k9 (by simp)).cell (o := 4))).2 ?_
          have ho9 := kN (k9.mono (by simp))
          rcases ho9.2 with ⟨_, h0, _⟩ | ⟨g, oo, cap, cur, he, hFg, -⟩
          · omega
          · subst he
            refine (xP_IAn (i := 0) SL_25 SZ_9 (by omega)).2 ?_
            rw [Nat.zero_mul]
            refine xE_storeOwn (i := 0) SZ_9 ho9 (by rw [flatS_len, hNlen]; omega) rfl fun w10 ho10 hk10 hz10 => ?_
            have hFC : C ∉ F := fun hm => by have := hF C hm; omega
            refine ⟨⟨X.corr, X.err, X.base, X.next, .slice (some ⟨g, oo, none⟩) i cap, bv⟩, _, ((hb8.kept k9 (by simp)).kept hk10 hFC), ⟨x1, x2, x3, x4, hsN (l := (names0 i).set 0 (zs 25)) (by rw [List.length_set]; exact hNlen) ?_, hsB hMlen ((kB (k9.mono (by simp))).kept hk10 (fun g hg hm => hFG g hm hg))⟩, .names, (hk08.then k9 (by simp)).then hk10 (fun g hg => .inr (by have := hF g hg; omega))⟩
            have e : ((names0 i).set 0 (zs 25)).flatMap encS = ((names0 i).flatMap encS).set 0 (.string (zs 25)) := by
              have f : ∀ l : List ByteArray, l.flatMap encS = l.map Value.string := fun l => by
                induction l with
                | nil => rfl
                | cons a l ih => rw [List.flatMap_cons, ih]; rfl
              rw [f, f, List.map_set]
            rw [e]
            exact ho10
        · rcases hob.2 with ⟨_, h0, _⟩ | ⟨g, oo, cap, cur, he, hGg, -⟩
          · omega
          · subst he
            refine (ld1 ONE_26 (v := .slice (some ⟨g, oo, none⟩) j cap) (hb8.cell (o := 5))).2 ?_
            refine (xP_IAn (i := 0) SL_26 SZ_33 (by omega)).2 ?_
            simp only [xP_nil, xP_pick, xP_func, xP_not, xP_add, xP_sub, xP_mul, xP_lss, xP_leq, xP_gtr, xP_geq, xP_max2, xP_min2, xR_eql, xR_neq, Nat.zero_add, Nat.add_zero, Nat.reduceAdd, List.getD_cons_zero, List.getD_cons_succ, xIf_true, xIf_false, FA_28_0, FA_28_1, FA_28_2, FA_28_3, FA_28_4, FA_28_5, FA_33_0, FA_33_1, FA_54_0, FA_54_1, FA_54_2, FA_64_0, FA_64_1, FA_64_2, FA_66_0, FA_66_1, FA_66_2, FA_66_3, FA_66_4, LEN_22, LEN_25, LEN_26, LEN_47, LEN_50, LEN_81, Nat.zero_mul]
            obtain ⟨j', rfl⟩ : ∃ j', j = j' + 1 := ⟨j - 1, by omega⟩
            refine xE_storeOwn (i := 0) SZ_3 hob (by rw [flat_len encT_len, hMlen]; omega) rfl fun w9 ho9 hk9 hz9 => ?_
            have hGC : C ∉ G := fun hm => by have := hG C hm; omega
            refine ⟨⟨X.corr, X.err, X.base, X.next, nv, .slice (some ⟨g, oo, none⟩) (j' + 1) cap⟩, _, (hb8.kept hk9 hGC), ⟨x1, x2, x3, x4, hsN hNlen (hon.kept hk9 (fun g hg hm => hFG g hg hm)), hsB (l := (bats0 (j' + 1)).set 0 (-1, zs 600)) (by rw [List.length_set]; exact hMlen) ?_⟩, .bbase, hk08.then hk9 (fun g hg => .inr (by have := hG g hg; omega))⟩
            exact ho9
        · refine (ld1 ONE_26 (v := bv) (b8d.cell (o := 5))).2 ?_
          refine xE_make EL_22 (l := 601) (by omega) (by unfold maxLen; omega) fun w9 hb9 hk9 hz9 => ?_
          have k9 : Kept [] w8 w9 := hkd.then hk9 (by simp)
          refine (still1 ONE_26 (v := bv) ((hb8.kept k9 (by simp)).cell (o := 5))).2 ?_
          refine (xE_toStr BYT STR (zsl 601 hb9)).2 ?_
          refine (still1 ONE_26 (v := bv) ((hb8.kept k9 (by simp)).cell (o := 5))).2 ?_
          have ho9 := kB (k9.mono (by simp))
          rcases ho9.2 with ⟨_, h0, _⟩ | ⟨g, oo, cap, cur, he, hGg, -⟩
          · omega
          · subst he
            refine (xP_IAn (i := 0) SL_26 SZ_33 (by omega)).2 ?_
            simp only [xP_nil, xP_pick, xP_func, xP_not, xP_add, xP_sub, xP_mul, xP_lss, xP_leq, xP_gtr, xP_geq, xP_max2, xP_min2, xR_eql, xR_neq, Nat.zero_add, Nat.add_zero, Nat.reduceAdd, List.getD_cons_zero, List.getD_cons_succ, xIf_true, xIf_false, FA_28_0, FA_28_1, FA_28_2, FA_28_3, FA_28_4, FA_28_5, FA_33_0, FA_33_1, FA_54_0, FA_54_1, FA_54_2, FA_64_0, FA_64_1, FA_64_2, FA_66_0, FA_66_1, FA_66_2, FA_66_3, FA_66_4, LEN_22, LEN_25, LEN_26, LEN_47, LEN_50, LEN_81, Nat.zero_mul]
            obtain ⟨j', rfl⟩ : ∃ j', j = j' + 1 := ⟨j - 1, by omega⟩
            refine xE_storeOwn (i := 1) SZ_9 ho9 (by rw [flat_len encT_len, hMlen]; omega) rfl fun w10 ho10 hk10 hz10 => ?_
            have hGC : C ∉ G := fun hm => by have := hG C hm; omega
            refine ⟨⟨X.corr, X.err, X.base, X.next, nv, .slice (some ⟨g, oo, none⟩) (j' + 1) cap⟩, _, ((hb8.kept k9 (by simp)).kept hk10 hGC), ⟨x1, x2, x3, x4, hsN hNlen ((kN (k9.mono (by simp))).kept hk10 (fun g hg hm => hFG g hg hm)), hsB (l := (bats0 (j' + 1)).set 0 (9223372036854775807, zs 601)) (by rw [List.length_set]; exact hMlen) ?_⟩, .bdata, (hk08.then k9 (by simp)).then hk10 (fun g hg => .inr (by have := hG g hg; omega))⟩
            exact ho10
        · omega
      rintro _ _ w9 ⟨Y, r, hb9, hY, hT, hk09⟩
      have hok := turned_ok (by omega) (by omega) hT
      have hwr := turned_wrong (by omega) (by omega) hT
      obtain ⟨L0, L1, L2, L3, L4, L5, L6⟩ := ldR hb9
      simp only [L6]
      refine xE_call CF_9 (rright_ok hY hok) ?_
      rintro _ w10 ⟨rfl, hk10⟩
      obtain ⟨M0, M1, M2, M3, M4, M5, M6⟩ := ldR (hb9.kept hk10 (by simp))
      rw [hwr]
      simp only [xP_nil, xP_pick, xP_func, xP_not, xP_add, xP_sub, xP_mul, xP_lss, xP_leq, xP_gtr, xP_geq, xP_max2, xP_min2, xR_eql, xR_neq, Nat.zero_add, Nat.add_zero, Nat.reduceAdd, List.getD_cons_zero, List.getD_cons_succ, xIf_true, xIf_false, FA_28_0, FA_28_1, FA_28_2, FA_28_3, FA_28_4, FA_28_5, FA_33_0, FA_33_1, FA_54_0, FA_54_1, FA_54_2, FA_64_0, FA_64_1, FA_64_2, FA_66_0, FA_66_1, FA_66_2, FA_66_3, FA_66_4, LEN_22, LEN_25, LEN_26, LEN_47, LEN_50, LEN_81, Bool.not_false, M6]
      refine xE_call CF_6 (rPut_ok (hY.kept0 hk10) hok) ?_
      rintro u w11 ⟨F11, ho11, hF11, hk11⟩
      rw [rp_bytes_no _ hwr] at ho11
      obtain ⟨ua, uc, rfl, -, -⟩ := ho11.slice
      simp only [xP_nil, xP_pick, xP_func, xP_not, xP_add, xP_sub, xP_mul, xP_lss, xP_leq, xP_gtr, xP_geq, xP_max2, xP_min2, xR_eql, xR_neq, Nat.zero_add, Nat.add_zero, Nat.reduceAdd, List.getD_cons_zero, List.getD_cons_succ, xIf_true, xIf_false, FA_28_0, FA_28_1, FA_28_2, FA_28_3, FA_28_4, FA_28_5, FA_33_0, FA_33_1, FA_54_0, FA_54_1, FA_54_2, FA_64_0, FA_64_1, FA_64_2, FA_66_0, FA_66_1, FA_66_2, FA_66_3, FA_66_4, LEN_22, LEN_25, LEN_26, LEN_47, LEN_50, LEN_81, List.length_nil, show decide (((0 : Nat) : Int) = 0) = true from rfl]
      refine xE_call CF_3 replyRuns_ok ?_
      rintro _ w12 ⟨rfl, hk12⟩
      exact ⟨rfl, ((hk09.then hk10 (by simp)).then hk11 (by simp)).then hk12 (by simp)⟩
end Go.Proofs.Ytbfaglbfpmnnmaa
