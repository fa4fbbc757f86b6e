import Derived.Test.YtoanmeohlpdjfaaDoorXcCodeI
namespace Go.Proofs.YtoanmeohlpdjfaaDoor
set_option linter.unusedSimpArgs false
set_option linter.unusedVariables false
set_option maxRecDepth 100000
attribute [local irreducible] Go.X.xE
open Go Go.X Go.RowKit

/-! ## The document's rows -/
abbrev OwnW (w : World) (v : Value) (ws : List (Value × List UInt8)) (G : List Nat) : Prop := Own w 32 1 v ws.length (ws.flatMap encW) G
theorem encW_len (r : Value × List UInt8) : (encW r).length = 1 := rfl
theorem OwnW.rows {w : World} {v : Value} {ws : List (Value × List UInt8)} {G : List Nat} (h : OwnW w v ws G) (hs : ∀ r ∈ ws, SlT w encB r.1 r.2) : RowsT w v (ws.map (·.2)) :=
  ⟨ws, Own.slT h encW_len (by omega), hs, rfl⟩
theorem appW {ws : List (Value × List UInt8)} {v u : Value} {x : List UInt8} {G : List Nat} {w : World} {K : Value → World → Prop} (h : OwnW w v ws G) (hu : u.oneCell' = true) (hl : ws.length < 1000)
    (k : ∀ o w' G', OwnW w' o (ws ++ [(u, x)]) G' → Kept G w w' → (∀ g ∈ G', g ∈ G ∨ w.heap.size ≤ g) → K o w') :
    xE Tryd.prog (sBuildSlice 29 1 #[(0, u)]) w fun a w1 => xE Tryd.prog (sB .append #[29, 29] #[v, a]) w1 fun o w2 => K o w2 := by
  refine xE_one EL_29 hu fun w1 hat hk1 hz1 => ?_
  have hat : At w1 w.heap.size 0 ([((u, x) : Value × List UInt8)].flatMap encW) := hat
  refine xE_append (m := 1) EL_29 (h.kept hk1 (by simp)) hat rfl (by intro y hy; simp [encW] at hy; subst hy; exact hu) (by omega) (by unfold maxLen; omega) (by omega) fun o w2 G' ho hk2 hG' _ => ?_
  have hz := h.lt
  refine k o w2 G' ?_ ((hk1.mono (by simp)).then hk2 (fun g hg => .inl hg)) (fun g hg => (hG' g hg).imp id (fun h => by omega))
  show Own w2 _ 1 o (ws ++ [(u, x)]).length _ G'
  rw [List.flatMap_append, List.length_append]
  exact ho
theorem row_ok {k n a : Nat} {w : World} (h1 : 1 ≤ k) (h2 : k ≤ n) (h3 : n ≤ 8) (h4 : a < n) :
    Gives Tryd.prog 37 #[.int .i64 k, .int .i64 n, .int .i64 a] w fun u w' => u = .slice (some ⟨w.heap.size, 0, none⟩) k k ∧ Own w' 5 1 (.slice (some ⟨w.heap.size, 0, none⟩) k k) k ((crow k a).flatMap encB) [w.heap.size] ∧ Kept [] w w' := by
  refine C_staveref1_Row ?_
  unfold S_staveref1_Row
  refine xJoin_of (fun ls w' => ls = [.bool false] ∧ w = w') ?_ ?_
  · simp only [xP_nil, xP_pick, xP_func, xP_not, xP_add, xP_sub, xP_mul, xP_lss, xP_leq, xP_gtr, xP_geq, xP_max2, xP_min2, xR_eql, xR_neq, Nat.zero_add, Nat.add_zero, Nat.reduceAdd, List.getD_cons_zero, List.getD_cons_succ, xIf_true, xIf_false, FA_35_0, FA_35_1, FA_66_0, FA_66_1, FA_66_2, FA_82_0, FA_82_1, FA_82_2, FA_86_0, FA_86_1, LEN_29, LEN_32, LEN_47, LEN_48, LEN_79, LEN_116, xIf_dec]
    exact ⟨fun h => by omega, fun _ => ⟨fun h => by omega, fun _ => ⟨fun h => by omega, fun _ => ⟨fun h => by omega, fun _ => ⟨by rw [decide_eq_false (by omega)], by trivial⟩⟩⟩⟩⟩
  rintro _ _ _ ⟨rfl, rfl⟩
  simp only [List.getD_cons_zero, xIf_false]
  refine makeB (by omega) fun w1 ho1 hk1 hz1 => ?_
  generalize hg : w.heap.size = g at *
  refine xLoop_of (fun ls w' => ∃ j : Nat, ls = [.int .i64 j] ∧ j ≤ k ∧ Own w' 5 1 (.slice (some ⟨g, 0, none⟩) k k) k ((crowU k a j).flatMap encB) [g] ∧ Kept [] w w') (fun ls _ => match ls with | [.int _ i] => k - i.toNat | _ => 0) ⟨0, rfl, by omega, by simpa [crowU] using ho1, hk1⟩ ?_
  rintro _ _ w2 ⟨j, rfl, hj, ho2, hk2⟩
  simp only [xP_nil, xP_pick, xP_func, xP_not, xP_add, xP_sub, xP_mul, xP_lss, xP_leq, xP_gtr, xP_geq, xP_max2, xP_min2, xR_eql, xR_neq, Nat.zero_add, Nat.add_zero, Nat.reduceAdd, List.getD_cons_zero, List.getD_cons_succ, xIf_true, xIf_false, FA_35_0, FA_35_1, FA_66_0, FA_66_1, FA_66_2, FA_82_0, FA_82_1, FA_82_2, FA_86_0, FA_86_1, LEN_29, LEN_32, LEN_47, LEN_48, LEN_79, LEN_116, xIf_dec]
  refine ⟨fun hlt => ?_, fun hge => ?_⟩
  · have hjk : j < k := by omega
    have hcl := crowU_len (a := a) hj
    have setj : ∀ {w3 : World} {u : UInt8} {R : World → Prop}, Own w3 5 1 (.slice (some ⟨g, 0, none⟩) k k) k ((crowU k a j).flatMap encB) [g] → Kept [] w w3 → u = coef k a j →
        (∀ w4, Own w4 5 1 (.slice (some ⟨g, 0, none⟩) k k) k ((crowU k a (j + 1)).flatMap encB) [g] → Kept [] w w4 → R w4) →
        xP Tryd.prog (sIA 32 (.slice (some ⟨g, 0, none⟩) k k) (.int .i64 j)) fun v => xE Tryd.prog (sStore 5 v (.int .u8 u.toNat)) w3 fun _ w4 => R w4 := by
      intro w3 u R ho3 hk3 hu kk
      refine (xP_IAn SL_32 SZ_5 hjk).2 ?_
      rw [Nat.mul_one]
      refine xE_storeOwn SZ_5 ho3 (i := j) (by rw [flat_len encB_len, hcl]; omega) rfl fun w4 ho4 hk4 hz4 => ?_
      rw [flip_set8, hu, crowU_set hjk] at ho4
      exact kk w4 ho4 (hk3.then hk4 (fun x hx => by simp at hx; exact .inr (by omega)))
    refine xJoin_of (fun ls w' => ls = [] ∧ Own w' 5 1 (.slice (some ⟨g, 0, none⟩) k k) k ((crowU k a (j + 1)).flatMap encB) [g] ∧ Kept [] w w') ?_ ?_
    · refine ⟨fun hak => ?_, fun hak => ?_⟩
      · refine ⟨fun hja => ?_, fun hja => ?_⟩
        · refine setj (u := 1) ho2 hk2 ?_ fun w4 ho4 hk4 => ⟨rfl, ho4, hk4⟩
          unfold coef
          rw [if_neg (by omega), if_pos (by omega)]
        · rw [← crowU_same hjk (by unfold coef; rw [if_neg (by omega), if_neg (by omega)])]
          exact ⟨by trivial, ho2, hk2⟩
      · refine (xP_xorN (by omega) (by omega)).2 ?_
        have hx : a ^^^ j < 256 := xor_lt (by omega) (by omega)
        refine (conv8i CI64 (a := UInt8.ofNat (a ^^^ j)) (by rw [u_of hx])).2 ?_
        refine rinvS ?_
        refine setj ho2 hk2 ?_ fun w4 ho4 hk4 => ⟨rfl, ho4, hk4⟩
        unfold coef
        rw [if_pos (by omega)]
    rintro _ _ w3 ⟨rfl, ho3, hk3⟩
    rw [wrap64 (by omega) (by omega)]
    exact ⟨⟨j + 1, rfl, by omega, ho3, hk3⟩, by omega⟩
  · obtain rfl : k = j := by omega
    rw [crowU_all] at ho2
    exact ⟨rfl, ho2, hk2⟩
/-! ### A row's sum of blocks -/
theorem mixLoops {r : List UInt8} {B : List (List UInt8)} {u bv : Value} {s g : Nat} {w : World} {R : World → Prop} (hr : ∀ w', Kept [g] w w' → SlT w' encB u r) (hB : ∀ w', Kept [g] w w' → RowsT w' bv B) (hl : r.length ≤ B.length) (hl2 : B.length ≤ 1000000) (hs : ∀ b ∈ B, b.length = s) (hsz : s ≤ 1000000)
    (hp : Own w 5 1 (.slice (some ⟨g, 0, none⟩) s s) s ((List.replicate s (0 : UInt8)).flatMap encB) [g])
    (kk : ∀ w', Own w' 5 1 (.slice (some ⟨g, 0, none⟩) s s) s ((mixU r B s r.length).flatMap encB) [g] → Kept [g] w w' → R w') :
    xP Tryd.prog (sB .len #[32] #[u]) fun v54 =>
    xLoop [(.int .i64 0)] w fun J36 vs37 _ w39 =>
      xP Tryd.prog (sBin .lss 3 (vs37.getD 0 undef) v54) fun v56 =>
      xIf v56 (
        xP Tryd.prog (sIA 32 u (vs37.getD 0 undef)) fun v58 =>
        xR Tryd.prog (sLoad 5 v58) w39 fun v59 =>
        xP Tryd.prog (sB .len #[32] #[.slice (some ⟨g, 0, none⟩) s s]) fun v61 =>
        xLoop [(.int .i64 0)] w39 fun J44 vs45 _ w47 =>
          xP Tryd.prog (sBin .lss 3 (vs45.getD 0 undef) v61) fun v63 =>
          xIf v63 (
            xP Tryd.prog (sIA 32 (.slice (some ⟨g, 0, none⟩) s s) (vs45.getD 0 undef)) fun v69 =>
            xR Tryd.prog (sLoad 5 v69) (w47.drew) fun v70 =>
            xP Tryd.prog (sIA 29 bv (vs37.getD 0 undef)) fun v74 =>
            xR Tryd.prog (sLoad 32 v74) (w47.drew) fun v75 =>
            xP Tryd.prog (sIA 32 v75 (vs45.getD 0 undef)) fun v77 =>
            xR Tryd.prog (sLoad 5 v77) (w47.drew) fun v78 =>
            xE Tryd.prog (sCall 18 #[v59, v78]) (w47.drew) fun v79 w56 =>
            xStill Tryd.prog (sLoad 5 v69) v70 w56 <|
            xP Tryd.prog (sBin .xor 5 v70 v79) fun v80 =>
            xP Tryd.prog (sIA 32 (.slice (some ⟨g, 0, none⟩) s s) (vs45.getD 0 undef)) fun v81 =>
            xE Tryd.prog (sStore 5 v81 v80) w56 fun _ w59 =>
            xP Tryd.prog (sBin .add 3 (vs45.getD 0 undef) (.int .i64 1)) fun v82 =>
            J44 [v82] w59) (
            xP Tryd.prog (sBin .add 3 (vs37.getD 0 undef) (.int .i64 1)) fun v83 =>
            J36 [v83] w47)) (R w39) := by
  have hr0 := hr w (Kept.refl _ _)
  obtain ⟨ua, uc, rfl, _, _⟩ := hr0
  have hgl : ∀ j, j < B.length → (B.getD j []).length = s := fun j hj => by rw [getD_lt hj]; exact hs _ (List.getElem_mem hj)
  simp only [xP_nil, xP_pick, xP_func, xP_not, xP_add, xP_sub, xP_mul, xP_lss, xP_leq, xP_gtr, xP_geq, xP_max2, xP_min2, xR_eql, xR_neq, Nat.zero_add, Nat.add_zero, Nat.reduceAdd, List.getD_cons_zero, List.getD_cons_succ, xIf_true, xIf_false, FA_35_0, FA_35_1, FA_66_0, FA_66_1, FA_66_2, FA_82_0, FA_82_1, FA_82_2, FA_86_0, FA_86_1, LEN_29, LEN_32, LEN_47, LEN_48, LEN_79, LEN_116]
  refine xLoop_of (fun ls w' => ∃ j : Nat, ls = [.int .i64 j] ∧ j ≤ r.length ∧ Own w' 5 1 (.slice (some ⟨g, 0, none⟩) s s) s ((mixU r B s j).flatMap encB) [g] ∧ Kept [g] w w') (fun ls _ => match ls with | [.int _ i] => r.length - i.toNat | _ => 0) ⟨0, rfl, by omega, by rw [mixU_zero]; exact hp, Kept.refl _ _⟩ ?_
  rintro _ _ w1 ⟨j, rfl, hj, ho1, hk1⟩
  simp only [xP_nil, xP_pick, xP_func, xP_not, xP_add, xP_sub, xP_mul, xP_lss, xP_leq, xP_gtr, xP_geq, xP_max2, xP_min2, xR_eql, xR_neq, Nat.zero_add, Nat.add_zero, Nat.reduceAdd, List.getD_cons_zero, List.getD_cons_succ, xIf_true, xIf_false, FA_35_0, FA_35_1, FA_66_0, FA_66_1, FA_66_2, FA_82_0, FA_82_1, FA_82_2, FA_86_0, FA_86_1, LEN_29, LEN_32, LEN_47, LEN_48, LEN_79, LEN_116, xIf_dec]
  refine ⟨fun hlt => ?_, fun hge => ?_⟩
  · have hj1 : j < r.length := by omega
    have hjB : j < B.length := by omega
    refine (byteAt (hr w1 hk1) hj1).2 ?_
    have hlj : (mixU r B s j).length = (B.getD j []).length := by rw [mixU_len, hgl j hjB]
    refine xLoop_of (fun ls w' => ∃ i : Nat, ls = [.int .i64 i] ∧ i ≤ s ∧ Own w' 5 1 (.slice (some ⟨g, 0, none⟩) s s) s ((addU (mixU r B s j) (B.getD j []) (r.getD j 0) i).flatMap encB) [g] ∧ Kept [g] w w') (fun ls _ => match ls with | [.int _ i] => s - i.toNat | _ => 0) ⟨0, rfl, by omega, by simpa [addU] using ho1, hk1⟩ ?_
    rintro _ _ w2 ⟨i, rfl, hi, ho2, hk2⟩
    simp only [xP_nil, xP_pick, xP_func, xP_not, xP_add, xP_sub, xP_mul, xP_lss, xP_leq, xP_gtr, xP_geq, xP_max2, xP_min2, xR_eql, xR_neq, Nat.zero_add, Nat.add_zero, Nat.reduceAdd, List.getD_cons_zero, List.getD_cons_succ, xIf_true, xIf_false, FA_35_0, FA_35_1, FA_66_0, FA_66_1, FA_66_2, FA_82_0, FA_82_1, FA_82_2, FA_86_0, FA_86_1, LEN_29, LEN_32, LEN_47, LEN_48, LEN_79, LEN_116, xIf_dec]
    have hal := addU_len (x := r.getD j 0) hlj i
    rw [mixU_len] at hal
    refine ⟨fun hli => ?_, fun hgi => ?_⟩
    · have his : i < s := by omega
      have hd2 := kept_drew [g] w2
      have hod := ho2.kept (kept_drew [] w2) (by simp)
      have hcell : ∀ w', Own w' 5 1 (.slice (some ⟨g, 0, none⟩) s s) s ((addU (mixU r B s j) (B.getD j []) (r.getD j 0) i).flatMap encB) [g] → w'.cell? ⟨g, 0 + i, none⟩ = some (.int .u8 ((mixU r B s j).getD i 0).toNat) := fun w' h' => by
        refine at_cell h'.at_.2 ?_
        rw [getD_cell8 (by rw [hal]; exact his), addU_at hlj (by rw [mixU_len]; exact his)]
      refine (xP_IAn SL_32 SZ_5 his).2 ?_
      rw [Nat.mul_one]
      refine (ld1 ONE_5 (hcell _ hod)).2 ?_
      have hk2d : Kept [g] w w2.drew := hk2.then hd2 (by simp)
      refine (hB _ hk2d).get rowW (Kept.refl _ _) hjB fun x hx => ?_
      refine (byteAt hx (by rw [hgl j hjB]; exact his)).2 ?_
      refine rmulS ?_
      refine (still1 ONE_5 (hcell _ hod)).2 ?_
      rw [xP_xor8]
      refine (xP_IAn SL_32 SZ_5 his).2 ?_
      rw [Nat.mul_one]
      refine xE_storeOwn SZ_5 hod (i := i) (by rw [flat_len encB_len, hal]; omega) rfl fun w3 ho3 hk3 hz3 => ?_
      rw [flip_set8, addU_set hlj (by rw [mixU_len]; exact his)] at ho3
      try simp only [xP_nil, xP_pick, xP_func, xP_not, xP_add, xP_sub, xP_mul, xP_lss, xP_leq, xP_gtr, xP_geq, xP_max2, xP_min2, xR_eql, xR_neq, Nat.zero_add, Nat.add_zero, Nat.reduceAdd, List.getD_cons_zero, List.getD_cons_succ, xIf_true, xIf_false, FA_35_0, FA_35_1, FA_66_0, FA_66_1, FA_66_2, FA_82_0, FA_82_1, FA_82_2, FA_86_0, FA_86_1, LEN_29, LEN_32, LEN_47, LEN_48, LEN_79, LEN_116]
      rw [wrap64 (by omega) (by omega)]
      exact ⟨⟨i + 1, rfl, by omega, ho3, hk2d.then hk3 (by simp)⟩, by omega⟩
    · obtain rfl : s = i := by omega
      have e : addU (mixU r B s j) (B.getD j []) (r.getD j 0) s = mixU r B s (j + 1) := by
        rw [← mixU_succ (hgl j hjB)]
        unfold addU
        rw [List.take_of_length_le (by rw [mulAdd_len hlj, mixU_len]; omega), List.drop_of_length_le (by rw [mixU_len]; omega), List.append_nil]
      rw [e] at ho2
      rw [wrap64 (by omega) (by omega)]
      exact ⟨⟨j + 1, rfl, by omega, ho2, hk2⟩, by omega⟩
  · obtain rfl : j = r.length := by omega
    exact kk w1 ho1 hk1
end Go.Proofs.YtoanmeohlpdjfaaDoor
