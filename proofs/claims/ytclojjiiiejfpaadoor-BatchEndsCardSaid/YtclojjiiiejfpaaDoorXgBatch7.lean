import Derived.Test.YtclojjiiiejfpaaDoorXgBatch5
namespace Go.Proofs.YtclojjiiiejfpaaDoor
set_option linter.unusedSimpArgs false
set_option linter.unusedVariables false
set_option maxRecDepth 100000
attribute [local irreducible] Go.X.xE
open Go Go.X Go.RowKit

/-! ## BatchEnds -/
theorem zs_texts (s : Nat) : ∀ k : Nat, ((List.replicate k (zs s)).flatMap textB).length = k * (2 + s) := by
  intro k
  induction k with
  | zero => simp
  | succ k ih => rw [List.replicate_succ, List.flatMap_cons, List.length_append, ih, text_len, zs_size, Nat.succ_mul]; omega
def btEnd (k s : Nat) : Bt := ⟨1125899906842624, 1048576, 1099511627776, List.replicate k (zs s)⟩
theorem btEnd_right {k s : Nat} (h1 : 1 ≤ k) (h2 : k ≤ 8) (h3 : s ≤ 60) : (btEnd k s).right = true := by
  unfold Bt.right
  rw [Bool.and_eq_true]
  refine ⟨Bt.fit_iff.2 ⟨by simp [btEnd], by simp [btEnd], by simp [btEnd], by simp [btEnd]; exact h1, by simp [btEnd]; exact h2, fun x hx => ?_⟩, rfl⟩
  rw [(List.mem_replicate.1 hx).2, zs_size]
  exact h3
theorem btEnd_len {k s : Nat} (h1 : 1 ≤ k) (h2 : k ≤ 8) (h3 : s ≤ 60) : (btEnd k s).bytes.length = 21 + k * (2 + s) := by
  rw [Bt.bytes_right (btEnd_right h1 h2 h3), btB_len]
  show 21 + ((List.replicate k (zs s)).flatMap textB).length = _
  rw [zs_texts]
theorem not_fit {b : Bt} (h : ¬ ((0 ≤ b.t ∧ b.t ≤ 1125899906842624) ∧ (0 ≤ b.p ∧ b.p ≤ 1048576) ∧ (0 ≤ b.s ∧ b.s ≤ 1099511627776) ∧ (1 ≤ b.v.length ∧ b.v.length ≤ 8 ∧ ∀ x ∈ b.v, x.size ≤ 60))) : b.right = false := by
  cases hr : b.right with
  | false => rfl
  | true => exact absurd (Bt.fit_iff.1 (Bt.right_fit hr)) h
theorem oneSo {s : ByteArray} {w : World} {K : Value → World → Prop} (k : ∀ u w' F, Own w' 9 1 u 1 ([s].flatMap encS) F → (∀ g ∈ F, w.heap.size ≤ g) → Kept [] w w' → K u w') : xE Tryd.prog (sBuildSlice 30 1 #[(0, .string s)]) w K := by
  refine xE_buildSlice EL_30 [.string s] rfl rfl (by simp [Value.cells]) (by omega) (by omega) fun w' hb hk _ => ?_
  exact k _ _ [w.heap.size] (own_of_blk (xs := [s].flatMap encS) hb (by simp [encS]) (by unfold maxLen; omega)) (by simp) hk
theorem bends_ok {n size how : Int} {w : World} (hgl : Glob w) :
    Gives Tryd.prog 14 #[.int .i64 n, .int .i64 size, .int .i64 how] w fun u w' => u = .bool true ∧ Kept [] w w' := by
  refine C_stavelaw15_BatchEnds ?_
  unfold S_stavelaw15_BatchEnds
  refine xE_call CF_26 (within_ok (by omega) (by omega) (by omega)) ?_
  rintro _ _ ⟨rfl, rfl⟩
  obtain ⟨wk1, wk2⟩ := within_bd (n := n) (lo := 1) (hi := 8) (by omega)
  obtain ⟨k, hk⟩ := Int.eq_ofNat_of_zero_le (show 0 ≤ within n 1 8 by omega)
  rw [hk] at wk1 wk2 ⊢
  refine xE_call CF_26 (within_ok (by omega) (by omega) (by omega)) ?_
  rintro _ _ ⟨rfl, rfl⟩
  obtain ⟨ws1, ws2⟩ := within_bd (n := size) (lo := 0) (hi := 60) (by omega)
  obtain ⟨s, hs⟩ := Int.eq_ofNat_of_zero_le ws1
  rw [hs] at ws2 ⊢
  refine (xP_build (cells := (encBt (btEnd 0 0) (.slice none 0 0)).toArray) (by kernel_rfl)).2 ?_
  refine newBt (b := btEnd 0 0) (vv := .slice none 0 0) rfl fun w1 hb1 hk1 => ?_
  have hz1 := hb1.lt
  generalize hV : w.heap.size = V at *
  refine xLoop_of (fun ls w' => ∃ (i : Nat) (o : Value) (F : List Nat), ls = [.int .i64 i] ∧ i ≤ k ∧ Own w' 9 1 o (List.replicate i (zs s)).length ((List.replicate i (zs s)).flatMap encS) F ∧ (∀ g ∈ F, V + 1 ≤ g) ∧ Blk w' V 63 (encBt (btEnd 0 0) o) ∧ Kept [] w w')
    (fun ls _ => match ls with | [.int _ i] => k - i.toNat | _ => 0) ⟨0, .slice none 0 0, [], rfl, by omega, own_nil _ _ _, by simp, hb1, hk1⟩ ?_
  rintro _ _ w2 ⟨i, o, F, rfl, hi, ho, hF, hb2, hk2⟩
  have hV2 := hb2.lt
  simp only [xP_nil, xP_pick, xP_func, xP_not, xP_add, xP_sub, xP_mul, xP_lss, xP_leq, xP_gtr, xP_geq, xP_max2, xP_min2, xR_eql, xR_neq, Nat.zero_add, Nat.add_zero, Nat.reduceAdd, List.getD_cons_zero, List.getD_cons_succ, xIf_true, xIf_false, FA_23_0, FA_23_1, FA_23_2, FA_23_3, FA_23_4, FA_32_0, FA_32_1, FA_32_2, FA_63_0, FA_63_1, FA_63_2, FA_63_3, FA_80_0, FA_80_1, FA_80_2, FA_85_0, FA_85_1, FA_85_2, LEN_24, LEN_25, LEN_30, LEN_33, LEN_58, LEN_82, LEN_134, xIf_dec]
  refine ⟨fun hlt => ?_, fun hge => ?_⟩
  · have hd := kept_drew [] w2
    have st : ∀ (w' : World) (B : Prop), Kept [] w2 w' → B → xStill Tryd.prog (sLoad 30 (.pointer (some ⟨V, 3, none⟩))) o w' B := fun w' B hk' hB => (still1 ONE_30 ((hb2.kept hk' (by simp)).cell (o := 3))).2 hB
    refine (ld1 ONE_30 (v := o) ((hb2.kept hd (by simp)).cell (o := 3))).2 ?_
    refine mk0 (by omega) fun mv w3 hm3 hk3 => ?_
    have hk23 := hd.then hk3 (by simp)
    refine st w3 _ hk23 ?_
    refine cv0 hm3 ?_
    refine st w3 _ hk23 ?_
    refine oneS fun sv w4 hs4 hk4 => ?_
    have hk24 := hk23.then hk4 (by simp)
    have hz4 := hk24.size
    refine st w4 _ hk24 ?_
    refine appS (ho.kept hk24 (by simp)) hs4 (by rw [List.length_replicate]; omega) fun o' w5 F' ho' hF' hk5 => ?_
    have hb5 := (hb2.kept hk24 (by simp)).kept hk5 (fun hm => by have := hF _ hm; omega)
    have hone : o'.oneCell' = true := by obtain ⟨_, _, e, _⟩ := ho'.slice; rw [e]; rfl
    refine xE_store1 SZ_30 hb5 (by simp [encBt]) hone fun w6 hb6 hk6 hz6 => ?_
    rw [wrap64 (by omega) (by omega)]
    have hF6 : ∀ g ∈ F', V + 1 ≤ g := fun g hg => (hF' g hg).elim (hF g) (fun h => by omega)
    refine ⟨⟨i + 1, o', F', rfl, by omega, ?_, hF6, by simpa [encBt] using hb6, ((hk2.then hk24 (by simp)).then hk5 (fun g hg => .inr (by have := hF g hg; omega))).then hk6 (by simp; omega)⟩, by omega⟩
    rw [List.replicate_succ']
    exact ho'.kept hk6 (fun g hg hm => by have := hF6 g hg; simp at hm; omega)
  obtain rfl : i = k := by omega
  have hr := btEnd_right (k := i) (s := s) (by omega) (by omega) (by omega)
  have hl := btEnd_len (k := i) (s := s) (by omega) (by omega) (by omega)
  have hmul : i * (2 + s) ≤ 8 * 62 := Nat.mul_le_mul (by omega) (by omega)
  have hmi : (i : Int) * (2 + (s : Int)) = ((i * (2 + s) : Nat) : Int) := by push_cast; rfl
  have hv2 : SlT w2 encS o (btEnd i s).v := ho.slT encS_len (by omega)
  have hvl : (btEnd i s).v.length ≤ 8 := by simp [btEnd]; omega
  have hvl1 : (btEnd i s).v.length = i := by simp [btEnd]
  have hb2 : Blk w2 V 63 (encBt (btEnd i s) o) := hb2
  have evs : (btEnd i s).v = List.replicate i (zs s) := rfl
  have ebt : ∀ (l : List ByteArray), (⟨1125899906842624, 1048576, 1099511627776, l⟩ : Bt) = { btEnd i s with v := l } := fun _ => rfl
  refine xJoin_of (fun ls w' => ls = [.bool false] ∧ Kept [] w2 w') ?_ ?_
  · have hd := kept_drew [] w2
    obtain ⟨L0, L1, L2, L3, L4⟩ := ldBt (hb2.kept hd (by simp))
    simp only [L4]
    refine brightS (hv2.kept0 hd) (by omega) fun w3 hk3 => ?_
    have hk23 := hd.then hk3 (by simp)
    rw [hr]
    simp only [xP_not, Bool.not_true, xIf_false]
    obtain ⟨M0, M1, M2, M3, M4⟩ := ldBt (hb2.kept hk23 (by simp))
    simp only [M4]
    generalize i * (2 + s) = im at *
    try simp only [xP_nil, xP_pick, xP_func, xP_not, xP_add, xP_sub, xP_mul, xP_lss, xP_leq, xP_gtr, xP_geq, xP_max2, xP_min2, xR_eql, xR_neq, Nat.zero_add, Nat.add_zero, Nat.reduceAdd, List.getD_cons_zero, List.getD_cons_succ, xIf_true, xIf_false, FA_23_0, FA_23_1, FA_23_2, FA_23_3, FA_23_4, FA_32_0, FA_32_1, FA_32_2, FA_63_0, FA_63_1, FA_63_2, FA_63_3, FA_80_0, FA_80_1, FA_80_2, FA_85_0, FA_85_1, FA_85_2, LEN_24, LEN_25, LEN_30, LEN_33, LEN_58, LEN_82, LEN_134]
    rw [wrap64 (x := 2 + (s : Int)) (by omega) (by omega), hmi, wrap64 (x := (im : Int)) (by omega) (by omega), wrap64 (by omega) (by omega)]
    refine bsizeS (hv2.kept0 hk23) (by omega) fun w4 hk4 => ?_
    have hk24 := hk23.then hk4 (by simp)
    simp only [xR_neq]
    rw [decide_eq_false (by rw [hl]; omega)]
    simp only [xIf_false]
    obtain ⟨N0, N1, N2, N3, N4⟩ := ldBt (hb2.kept hk24 (by simp))
    simp only [N4]
    refine bPutS (hv2.kept0 hk24) (by omega) fun pv w5 hp5 hk5 => ?_
    have hk25 := hk24.then hk5 (by simp)
    refine (stBt (hb2.kept hk25 (by simp))).2 ?_
    obtain ⟨pa, pc, rfl, _, _⟩ := hp5
    try simp only [xP_nil, xP_pick, xP_func, xP_not, xP_add, xP_sub, xP_mul, xP_lss, xP_leq, xP_gtr, xP_geq, xP_max2, xP_min2, xR_eql, xR_neq, Nat.zero_add, Nat.add_zero, Nat.reduceAdd, List.getD_cons_zero, List.getD_cons_succ, xIf_true, xIf_false, FA_23_0, FA_23_1, FA_23_2, FA_23_3, FA_23_4, FA_32_0, FA_32_1, FA_32_2, FA_63_0, FA_63_1, FA_63_2, FA_63_3, FA_80_0, FA_80_1, FA_80_2, FA_85_0, FA_85_1, FA_85_2, LEN_24, LEN_25, LEN_30, LEN_33, LEN_58, LEN_82, LEN_134]
    refine bsizeS (hv2.kept0 hk25) (by omega) fun w6 hk6 => ?_
    simp only [xR_neq, ne_eq, not_true_eq_false, decide_false]
    exact ⟨trivial, hk25.then hk6 (by simp)⟩
  rintro _ _ w3 ⟨rfl, hk3⟩
  simp only [List.getD_cons_zero, xIf_false]
  have hk03 := hk2.then hk3 (by simp)
  have hb3 := hb2.kept hk3 (by simp)
  have hv3 := hv2.kept0 hk3
  have ho3 := ho.kept hk3 (by simp)
  obtain ⟨L0, L1, L2, L3, L4⟩ := ldBt hb3
  simp only [L4]
  refine newBt hv3.one fun w4 hb4 hk4 => ?_
  have hC := hb4.lt
  have hk04 := hk03.then hk4 (by simp)
  have hb34 := hb3.kept hk4 (by simp)
  have hv4 := hv3.kept0 hk4
  have ho4 := ho3.kept hk4 (by simp)
  have hVC : V < w3.heap.size := hb3.lt
  have hFC := ho3.lt
  generalize w3.heap.size = C at *
  refine xJoin_of (fun ls w' => ∃ (c : Bt) (cv : Value), Blk w' C 63 (encBt c cv) ∧ SlT w' encS cv c.v ∧ c.v.length ≤ 10 ∧ c.right = false ∧ Kept [] w w') ?_ ?_
  · refine xE_call CF_26 (within_ok (by omega) (by omega) (by omega)) ?_
    rintro _ _ ⟨rfl, rfl⟩
    obtain ⟨wh1, wh2⟩ := within_bd (n := how) (lo := 0) (hi := 6) (by omega)
    generalize within how 0 6 = h at *
    obtain ⟨M0, M1, M2, M3, M4⟩ := ldBt hb4
    have e0 : (encBt (btEnd i s) o).length = 4 := rfl
    have kv : ∀ w' M, Kept M w4 w' → (∀ g ∈ F, g ∉ M) → SlT w' encS o (btEnd i s).v := fun w' M hk hM => (ho4.kept hk hM).slT encS_len (by omega)
    have hCF : ∀ g ∈ F, g ∉ [C] := fun g hg hm => by have := hFC g hg; simp at hm; omega
    simp only [xP_nil, xP_pick, xP_func, xP_not, xP_add, xP_sub, xP_mul, xP_lss, xP_leq, xP_gtr, xP_geq, xP_max2, xP_min2, xR_eql, xR_neq, Nat.zero_add, Nat.add_zero, Nat.reduceAdd, List.getD_cons_zero, List.getD_cons_succ, xIf_true, xIf_false, FA_23_0, FA_23_1, FA_23_2, FA_23_3, FA_23_4, FA_32_0, FA_32_1, FA_32_2, FA_63_0, FA_63_1, FA_63_2, FA_63_3, FA_80_0, FA_80_1, FA_80_2, FA_85_0, FA_85_1, FA_85_2, LEN_24, LEN_25, LEN_30, LEN_33, LEN_58, LEN_82, LEN_134, M0, M1, M2, xIf_dec]
    refine ⟨fun h0 => ?_, fun h0 => ⟨fun h1 => ?_, fun h1 => ⟨fun h2 => ?_, fun h2 => ⟨fun h3 => ?_, fun h3 => ⟨fun h4 => ?_, fun h4 => ⟨fun h5 => ?_, fun h5 => ⟨fun h6 => ?_, fun h6 => ?_⟩⟩⟩⟩⟩⟩⟩
    · rw [wrap64 (by simp [btEnd]) (by simp [btEnd])]
      refine xE_store1 SZ_3 hb4 (by omega) rfl fun w5 hb5 hk5 _ => ?_
      exact ⟨{ btEnd i s with t := (btEnd i s).t + 1 }, o, by simpa [encBt] using hb5, kv _ _ hk5 hCF, by show (btEnd i s).v.length ≤ 10; omega, not_fit (fun hh => by have := hh.1.2; simp [btEnd] at this), hk04.then hk5 (by simp; omega)⟩
    · rw [wrap64 (by simp [btEnd]) (by simp [btEnd])]
      refine xE_store1 SZ_3 hb4 (by omega) rfl fun w5 hb5 hk5 _ => ?_
      exact ⟨{ btEnd i s with p := (btEnd i s).p + 1 }, o, by simpa [encBt] using hb5, kv _ _ hk5 hCF, by show (btEnd i s).v.length ≤ 10; omega, not_fit (fun hh => by have := hh.2.1.2; simp [btEnd] at this), hk04.then hk5 (by simp; omega)⟩
    · rw [wrap64 (by simp [btEnd]) (by simp [btEnd])]
      refine xE_store1 SZ_3 hb4 (by omega) rfl fun w5 hb5 hk5 _ => ?_
      exact ⟨{ btEnd i s with s := (btEnd i s).s + 1 }, o, by simpa [encBt] using hb5, kv _ _ hk5 hCF, by show (btEnd i s).v.length ≤ 10; omega, not_fit (fun hh => by have := hh.2.2.1.2; simp [btEnd] at this), hk04.then hk5 (by simp; omega)⟩
    · refine xE_store1 SZ_3 hb4 (by omega) rfl fun w5 hb5 hk5 _ => ?_
      refine ⟨{ btEnd i s with p := 0 }, o, by simpa [encBt] using hb5, kv _ _ hk5 hCF, by show (btEnd i s).v.length ≤ 10; omega, ?_, hk04.then hk5 (by simp; omega)⟩
      unfold Bt.right
      rw [show (decide (0 < ({ btEnd i s with p := 0 } : Bt).p) || decide (({ btEnd i s with p := 0 } : Bt).s = 0)) = false from rfl, Bool.and_false]
    · refine xE_store1 SZ_30 hb4 (by omega) rfl fun w5 hb5 hk5 _ => ?_
      exact ⟨{ btEnd i s with v := [] }, .slice none 0 0, by simpa [encBt] using hb5, SlT.nil_ _ _, by simp, not_fit (fun hh => by have := hh.2.2.2.1; simp at this), hk04.then hk5 (by simp; omega)⟩
    · have hd := kept_drew [] w4
      have st : ∀ (w' : World) (B : Prop), Kept [] w4 w' → B → xStill Tryd.prog (sLoad 30 (.pointer (some ⟨V, 3, none⟩))) o w' B := fun w' B hk' hB => (still1 ONE_30 ((hb34.kept hk' (by simp)).cell (o := 3))).2 hB
      refine (ld1 ONE_30 (v := o) ((hb34.kept hd (by simp)).cell (o := 3))).2 ?_
      obtain ⟨oa, oc, rfl, r1, r2⟩ := hv4
      have hv4 : SlT w4 encS (.slice oa (btEnd i s).v.length oc) (btEnd i s).v := ⟨oa, oc, rfl, r1, r2⟩
      refine (xP_from SL_30 SZ_9 (by omega) (by omega)).2 ?_
      have hsub := SlT.sub (i := 1) (j := (btEnd i s).v.length) encS_len hv4 (by omega) (Nat.le_refl _)
      rw [List.take_of_length_le (by rw [List.length_drop]; exact Nat.le_refl _)] at hsub
      refine mk0 (n := 61) (by omega) fun mv w5 hm5 hk5 => ?_
      have hk45 := hd.then hk5 (by simp)
      refine st w5 _ hk45 ?_
      refine cv0 hm5 ?_
      refine st w5 _ hk45 ?_
      refine oneSo fun sv w6 F6 ho6 hF6 hk6 => ?_
      have hk46 := hk45.then hk6 (by simp)
      have hz46 := hk45.size
      refine st w6 _ hk46 ?_
      have hdl : ((btEnd i s).v.drop 1).length ≤ 8 := by rw [List.length_drop]; omega
      refine xE_appendSrc EL_30 ho6 (Src.ofSlT (e' := 9) (by kernel_rfl) (hsub.kept0 hk46) encS_len encS_one) (by omega) (by unfold maxLen; omega) fun nv w7 F7 ho7 hk7 hF7 _ => ?_
      have hz6 := hk46.size
      have hF7' : ∀ g ∈ F7, C + 1 ≤ g := fun g hg => by
        rcases hF7 g hg with h | h
        · have := hF6 g h; omega
        · omega
      have hone : nv.oneCell' = true := by obtain ⟨_, _, e, _⟩ := ho7.slice; rw [e]; rfl
      have hb7 := (hb4.kept hk46 (by simp)).kept hk7 (fun hm => by have := hF6 _ hm; omega)
      try simp only [xP_nil, xP_pick, xP_func, xP_not, xP_add, xP_sub, xP_mul, xP_lss, xP_leq, xP_gtr, xP_geq, xP_max2, xP_min2, xR_eql, xR_neq, Nat.zero_add, Nat.add_zero, Nat.reduceAdd, List.getD_cons_zero, List.getD_cons_succ, xIf_true, xIf_false, FA_23_0, FA_23_1, FA_23_2, FA_23_3, FA_23_4, FA_32_0, FA_32_1, FA_32_2, FA_63_0, FA_63_1, FA_63_2, FA_63_3, FA_80_0, FA_80_1, FA_80_2, FA_85_0, FA_85_1, FA_85_2, LEN_24, LEN_25, LEN_30, LEN_33, LEN_58, LEN_82, LEN_134]
      refine xE_store1 SZ_30 hb7 (by simp [encBt]) hone fun w8 hb8 hk8 _ => ?_
      have ho8 : Own w8 9 1 nv (zs 61 :: (btEnd i s).v.drop 1).length ((zs 61 :: (btEnd i s).v.drop 1).flatMap encS) F7 := by
        have := ho7.kept hk8 (fun g hg hm => by have := hF7' g hg; simp at hm; omega)
        rw [← List.flatMap_append, Nat.add_comm] at this
        exact this
      refine ⟨{ btEnd i s with v := zs 61 :: (btEnd i s).v.drop 1 }, nv, by simpa [encBt] using hb8, ho8.slT encS_len (by omega), by show (zs 61 :: (btEnd i s).v.drop 1).length ≤ 10; rw [List.length_cons]; omega, not_fit (fun hh => by have := hh.2.2.2.2.2 (zs 61) List.mem_cons_self; rw [zs_size] at this; omega), ((hk04.then hk46 (by simp)).then hk7 (fun g hg => .inr (by have := hF6 g hg; omega))).then hk8 (by simp; omega)⟩
    · refine xE_store1 SZ_3 hb4 (by omega) rfl fun w5 hb5 hk5 _ => ?_
      exact ⟨{ btEnd i s with t := -1 }, o, by simpa [encBt] using hb5, kv _ _ hk5 hCF, by show (btEnd i s).v.length ≤ 10; omega, not_fit (fun hh => by have := hh.1.1; simp at this), hk04.then hk5 (by simp; omega)⟩
    · omega
  rintro _ _ w5 ⟨c, cv, hb5, hv5, hcl, hcr, hk05⟩
  obtain ⟨M0, M1, M2, M3, M4⟩ := ldBt hb5
  simp only [M4]
  refine brightS hv5 (by omega) fun w6 hk6 => ?_
  rw [hcr]
  simp only [xP_not, Bool.not_false, xIf_true]
  obtain ⟨N0, N1, N2, N3, N4⟩ := ldBt (hb5.kept hk6 (by simp))
  simp only [N4]
  refine bPutS (hv5.kept0 hk6) (by omega) fun pv w7 hp7 hk7 => ?_
  rw [Bt.bytes_not hcr] at hp7
  obtain ⟨pa, pc, rfl, _, _⟩ := hp7
  try simp only [xP_nil, xP_pick, xP_func, xP_not, xP_add, xP_sub, xP_mul, xP_lss, xP_leq, xP_gtr, xP_geq, xP_max2, xP_min2, xR_eql, xR_neq, Nat.zero_add, Nat.add_zero, Nat.reduceAdd, List.getD_cons_zero, List.getD_cons_succ, xIf_true, xIf_false, FA_23_0, FA_23_1, FA_23_2, FA_23_3, FA_23_4, FA_32_0, FA_32_1, FA_32_2, FA_63_0, FA_63_1, FA_63_2, FA_63_3, FA_80_0, FA_80_1, FA_80_2, FA_85_0, FA_85_1, FA_85_2, LEN_24, LEN_25, LEN_30, LEN_33, LEN_58, LEN_82, LEN_134]
  rw [decide_eq_true (show ((([] : List UInt8).length : Nat) : Int) = 0 from rfl)]
  simp only [xIf_true]
  exact bRunsG hgl ((hk05.then hk6 (by simp)).then hk7 (by simp))
end Go.Proofs.YtclojjiiiejfpaaDoor
