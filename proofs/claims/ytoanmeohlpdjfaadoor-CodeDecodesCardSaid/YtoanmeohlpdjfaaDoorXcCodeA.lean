import Derived.Test.YtoanmeohlpdjfaaDoorXcCode9
namespace Go.Proofs.YtoanmeohlpdjfaaDoor
set_option linter.unusedSimpArgs false
set_option linter.unusedVariables false
set_option maxRecDepth 100000
attribute [local irreducible] Go.X.xE
open Go Go.X Go.RowKit

/-! ## What the laws on codes share -/
theorem and64 {y : Nat} (h : y < 2 ^ 40) : IntKind.i64.wrap ((BitVec.ofInt 64 (y : Int) &&& BitVec.ofInt 64 1).toNat : Nat) = ((y % 2 : Nat) : Int) := by
  have e : (BitVec.ofInt 64 (y : Int) &&& BitVec.ofInt 64 1).toNat = y % 2 := by
    rw [BitVec.toNat_and, BitVec.toNat_ofInt, BitVec.toNat_ofInt]
    have e1 : ((y : Int) % ((2 : Nat) ^ 64 : Nat)).toNat = y := by omega
    have e2 : ((1 : Int) % ((2 : Nat) ^ 64 : Nat)).toNat = 1 := by omega
    rw [e1, e2]
    exact Nat.and_one_is_mod y
  rw [e]
  exact wrap64 (by omega) (by omega)
theorem conv8i {T : TypeId} {n : Int} {a : UInt8} {K : Value → Prop} (hT : intB Tryd.prog T .i64) (h : n = a.toNat) : xP Tryd.prog (sConv T 5 (.int .i64 n)) K ↔ K (.int .u8 a.toNat) := by
  rw [xP_conv hT CU8, wrapU8, h]
  have := u_lt a
  rw [show ((a.toNat : Int) % 256) = a.toNat by omega]
theorem convi8 {a : UInt8} {K : Value → Prop} : xP Tryd.prog (sConv 5 3 (.int .u8 a.toNat)) K ↔ K (.int .i64 a.toNat) := by
  have := u_lt a
  rw [xP_conv CU8 CI64, wrap64 (by omega) (by omega)]
theorem pmul_zero (n x : Nat) (hn : n ≤ 8) (hx : x < 256) : pmul n x 0 = 0 := by
  rw [pmul_gmul n x 0 hn hx (Nat.two_pow_pos n), gmul_zero]
theorem rmul_ok {a b : UInt8} {w : World} : Gives Tryd.prog 18 #[.int .u8 a.toNat, .int .u8 b.toNat] w fun u w' => u = .int .u8 (umul a b).toNat ∧ w = w' := by
  refine C_staveref1_Mul ?_
  unfold S_staveref1_Mul
  rw [convi8, convi8]
  refine xLoop_of (fun ls w' => ∃ x y out n : Nat, ls = [.int .i64 x, .int .i64 out, .int .i64 y] ∧ x < 256 ∧ out < 256 ∧ n ≤ 8 ∧ y < 2 ^ n ∧ out ^^^ pmul n x y = gmul a.toNat b.toNat ∧ w = w') (fun ls _ => match ls with | [_, _, .int _ y] => y.toNat | _ => 0)
    ⟨a.toNat, b.toNat, 0, 8, rfl, u_lt a, by omega, by omega, u_lt b, by rw [Nat.zero_xor]; exact pmul_gmul 8 _ _ (by omega) (u_lt a) (u_lt b), rfl⟩ ?_
  rintro _ _ _ ⟨x, y, out, n, rfl, hx, ho, hn, hy, he, rfl⟩
  simp only [xP_nil, xP_pick, xP_func, xP_not, xP_add, xP_sub, xP_mul, xP_lss, xP_leq, xP_gtr, xP_geq, xP_max2, xP_min2, xR_eql, xR_neq, Nat.zero_add, Nat.add_zero, Nat.reduceAdd, List.getD_cons_zero, List.getD_cons_succ, xIf_true, xIf_false, FA_35_0, FA_35_1, FA_66_0, FA_66_1, FA_66_2, FA_82_0, FA_82_1, FA_82_2, FA_86_0, FA_86_1, LEN_29, LEN_32, LEN_47, LEN_48, LEN_79, LEN_116, xIf_dec]
  refine ⟨fun hpos => ?_, fun hz => ?_⟩
  · obtain ⟨m, rfl⟩ : ∃ m, n = m + 1 := ⟨n - 1, by
      cases n with
      | zero => simp at hy; omega
      | succ n => rfl⟩
    have hy256 : y < 256 := by
      have : 2 ^ (m + 1) ≤ 2 ^ 8 := Nat.pow_le_pow_right (by omega) hn
      omega
    simp only [pmul] at he
    refine xJoin_of (fun ls w' => ls = [.int .i64 (dbl x : Nat), .int .i64 ((out ^^^ if y % 2 = 1 then x else 0 : Nat) : Int)] ∧ w = w') ?_ ?_
    · refine xJoin_of (fun ls w' => ls = [.int .i64 ((out ^^^ if y % 2 = 1 then x else 0 : Nat) : Int)] ∧ w = w') ?_ ?_
      · refine xP_and.2 ?_
        rw [show IntKind.i64.bits = 64 from rfl, and64 (by omega)]
        try simp only [xP_nil, xP_pick, xP_func, xP_not, xP_add, xP_sub, xP_mul, xP_lss, xP_leq, xP_gtr, xP_geq, xP_max2, xP_min2, xR_eql, xR_neq, Nat.zero_add, Nat.add_zero, Nat.reduceAdd, List.getD_cons_zero, List.getD_cons_succ, xIf_true, xIf_false, FA_35_0, FA_35_1, FA_66_0, FA_66_1, FA_66_2, FA_82_0, FA_82_1, FA_82_2, FA_86_0, FA_86_1, LEN_29, LEN_32, LEN_47, LEN_48, LEN_79, LEN_116]
        rw [xIf_dec]
        refine ⟨fun h1 => ?_, fun h1 => ?_⟩
        · refine (xP_xorN (by omega) (by omega)).2 ?_
          rw [if_pos (by omega)]
          exact ⟨by trivial, by trivial⟩
        · rw [if_neg (by omega), Nat.xor_zero]
          exact ⟨by trivial, by trivial⟩
      rintro _ _ _ ⟨rfl, rfl⟩
      refine (xP_shl (by omega)).2 ?_
      have esh : IntKind.i64.wrap ((x : Int) * 2 ^ min (1 : Int).toNat IntKind.i64.bits) = ((2 * x : Nat) : Int) := by
        rw [show min (1 : Int).toNat IntKind.i64.bits = 1 from rfl]
        rw [wrap64 (by omega) (by omega)]
        omega
      rw [esh]
      try simp only [xP_nil, xP_pick, xP_func, xP_not, xP_add, xP_sub, xP_mul, xP_lss, xP_leq, xP_gtr, xP_geq, xP_max2, xP_min2, xR_eql, xR_neq, Nat.zero_add, Nat.add_zero, Nat.reduceAdd, List.getD_cons_zero, List.getD_cons_succ, xIf_true, xIf_false, FA_35_0, FA_35_1, FA_66_0, FA_66_1, FA_66_2, FA_82_0, FA_82_1, FA_82_2, FA_86_0, FA_86_1, LEN_29, LEN_32, LEN_47, LEN_48, LEN_79, LEN_116]
      rw [xIf_dec]
      refine ⟨fun hbig => ?_, fun hsmall => ?_⟩
      · rw [show (285 : Int) = ((285 : Nat) : Int) from rfl]
        refine (xP_xorN (by omega) (by omega)).2 ?_
        refine ⟨?_, by trivial⟩
        rw [dbl, if_neg (show ¬ x < 128 by omega)]
      · refine ⟨?_, by trivial⟩
        rw [dbl, if_pos (show x < 128 by omega)]
    rintro _ _ _ ⟨rfl, rfl⟩
    refine (xP_shr (by omega)).2 ?_
    have esr : ((y : Int) / 2 ^ min (1 : Int).toNat IntKind.i64.bits) = ((y / 2 : Nat) : Int) := by
      rw [show min (1 : Int).toNat IntKind.i64.bits = 1 from rfl]
      omega
    rw [esr]
    try simp only [xP_nil, xP_pick, xP_func, xP_not, xP_add, xP_sub, xP_mul, xP_lss, xP_leq, xP_gtr, xP_geq, xP_max2, xP_min2, xR_eql, xR_neq, Nat.zero_add, Nat.add_zero, Nat.reduceAdd, List.getD_cons_zero, List.getD_cons_succ, xIf_true, xIf_false, FA_35_0, FA_35_1, FA_66_0, FA_66_1, FA_66_2, FA_82_0, FA_82_1, FA_82_2, FA_86_0, FA_86_1, LEN_29, LEN_32, LEN_47, LEN_48, LEN_79, LEN_116]
    refine ⟨⟨dbl x, y / 2, _, m, rfl, dbl_lt hx, ?_, by omega, ?_, ?_, by trivial⟩, by omega⟩
    · exact xor_lt ho (by split <;> omega)
    · rw [Nat.pow_succ] at hy; omega
    · rw [Nat.xor_assoc]; exact he
  · obtain rfl : y = 0 := by omega
    rw [pmul_zero n x hn hx, Nat.xor_zero] at he
    refine (conv8i CI64 (a := umul a b) (by rw [umul_val, he])).2 ?_
    exact ⟨rfl, rfl⟩
theorem rmulS {a b : UInt8} {w : World} {K : Value → World → Prop} (k : K (.int .u8 (umul a b).toNat) w) : xE Tryd.prog (sCall 18 #[.int .u8 a.toNat, .int .u8 b.toNat]) w K :=
  xE_call CF_18 rmul_ok (fun u w' ⟨e, e'⟩ => by subst e; subst e'; exact k)
theorem rinv_ok {a : UInt8} {w : World} : Gives Tryd.prog 17 #[.int .u8 a.toNat] w fun u w' => u = .int .u8 (uinv a).toNat ∧ w = w' := by
  refine C_staveref1_Inv ?_
  unfold S_staveref1_Inv
  refine xLoop_of (fun ls w' => ∃ b : Nat, ls = [.int .i64 b] ∧ 1 ≤ b ∧ b ≤ 256 ∧ (∀ j, 1 ≤ j → j < b → umul a (UInt8.ofNat j) ≠ 1) ∧ w = w') (fun ls _ => match ls with | [.int _ y] => 256 - y.toNat | _ => 0) ⟨1, rfl, by omega, by omega, fun j h1 h2 => by omega, rfl⟩ ?_
  rintro _ _ _ ⟨b, rfl, h1, h2, hb, rfl⟩
  simp only [xP_nil, xP_pick, xP_func, xP_not, xP_add, xP_sub, xP_mul, xP_lss, xP_leq, xP_gtr, xP_geq, xP_max2, xP_min2, xR_eql, xR_neq, Nat.zero_add, Nat.add_zero, Nat.reduceAdd, List.getD_cons_zero, List.getD_cons_succ, xIf_true, xIf_false, FA_35_0, FA_35_1, FA_66_0, FA_66_1, FA_66_2, FA_82_0, FA_82_1, FA_82_2, FA_86_0, FA_86_1, LEN_29, LEN_32, LEN_47, LEN_48, LEN_79, LEN_116, xIf_dec]
  refine ⟨fun hlt => ?_, fun hge => ?_⟩
  · have hbn : b < 256 := by omega
    have hconv : ∀ {K : Value → Prop}, xP Tryd.prog (sConv 3 5 (.int .i64 b)) K ↔ K (.int .u8 (UInt8.ofNat b).toNat) := conv8i CI64 (by rw [u_of hbn])
    rw [hconv]
    refine rmulS ?_
    try simp only [xP_nil, xP_pick, xP_func, xP_not, xP_add, xP_sub, xP_mul, xP_lss, xP_leq, xP_gtr, xP_geq, xP_max2, xP_min2, xR_eql, xR_neq, Nat.zero_add, Nat.add_zero, Nat.reduceAdd, List.getD_cons_zero, List.getD_cons_succ, xIf_true, xIf_false, FA_35_0, FA_35_1, FA_66_0, FA_66_1, FA_66_2, FA_82_0, FA_82_1, FA_82_2, FA_86_0, FA_86_1, LEN_29, LEN_32, LEN_47, LEN_48, LEN_79, LEN_116]
    rw [xIf_dec]
    have hone : (((umul a (UInt8.ofNat b)).toNat : Int) = 1) ↔ umul a (UInt8.ofNat b) = 1 := ⟨fun h => UInt8.toNat_inj.1 (by show _ = 1; omega), fun h => by rw [h]; rfl⟩
    rw [hone]
    refine ⟨fun he => ?_, fun hne => ?_⟩
    · rw [hconv]
      refine ⟨?_, rfl⟩
      have ha : a ≠ 0 := fun e => by rw [e, zero_umul] at he; exact absurd he (by decide)
      have : UInt8.ofNat b = uinv a := umul_cancel ha (by rw [he, umul_inv ha])
      rw [this]
    · rw [wrap64 (by omega) (by omega)]
      refine ⟨⟨b + 1, rfl, by omega, by omega, fun j j1 j2 => ?_, by trivial⟩, by omega⟩
      by_cases hj : j = b
      · rw [hj]; exact hne
      · exact hb j j1 (by omega)
  · refine ⟨?_, rfl⟩
    by_cases ha : a = 0
    · rw [ha, uinv_zero]; rfl
    · exfalso
      have hi := uinv_ne ha
      have hp : 1 ≤ (uinv a).toNat := Nat.pos_of_ne_zero fun e => hi (UInt8.toNat_inj.1 e)
      have := hb (uinv a).toNat hp (by have := u_lt (uinv a); omega)
      rw [UInt8.ofNat_toNat] at this
      exact this (umul_inv ha)
theorem rinvS {a : UInt8} {w : World} {K : Value → World → Prop} (k : K (.int .u8 (uinv a).toNat) w) : xE Tryd.prog (sCall 17 #[.int .u8 a.toNat]) w K :=
  xE_call CF_17 rinv_ok (fun u w' ⟨e, e'⟩ => by subst e; subst e'; exact k)
theorem same_ok {a b : Value} {A B : List (List UInt8)} {w : World} (ha : RowsT w a A) (hb : RowsT w b B) (hl : A.length ≤ 1000000) (hs : ∀ x ∈ A, x.length ≤ 1000000) :
    Gives Tryd.prog 16 #[a, b] w fun u w' => u = .bool (decide (A = B)) ∧ Kept [] w w' := by
  refine C_stavelaw4_same ?_
  unfold S_stavelaw4_same
  obtain ⟨aa, ac, hae⟩ := ha.sl
  obtain ⟨ba, bc, hbe⟩ := hb.sl
  rw [hae, hbe]
  simp only [xP_nil, xP_pick, xP_func, xP_not, xP_add, xP_sub, xP_mul, xP_lss, xP_leq, xP_gtr, xP_geq, xP_max2, xP_min2, xR_eql, xR_neq, Nat.zero_add, Nat.add_zero, Nat.reduceAdd, List.getD_cons_zero, List.getD_cons_succ, xIf_true, xIf_false, FA_35_0, FA_35_1, FA_66_0, FA_66_1, FA_66_2, FA_82_0, FA_82_1, FA_82_2, FA_86_0, FA_86_1, LEN_29, LEN_32, LEN_47, LEN_48, LEN_79, LEN_116, xIf_dec]
  rw [← hae, ← hbe]
  refine ⟨fun hne => ⟨by rw [decide_eq_false (fun e => hne (by rw [e]))], Kept.refl _ _⟩, fun heq => ?_⟩
  refine xLoop_of (fun ls w' => ∃ i : Nat, ls = [.int .i64 i] ∧ i ≤ A.length ∧ (∀ j, j < i → A.getD j [] = B.getD j []) ∧ Kept [] w w') (fun ls _ => match ls with | [.int _ i] => A.length - i.toNat | _ => 0) ⟨0, rfl, by omega, by omega, Kept.refl _ _⟩ ?_
  rintro _ _ w1 ⟨i, rfl, hi, hb', hk⟩
  simp only [xP_nil, xP_pick, xP_func, xP_not, xP_add, xP_sub, xP_mul, xP_lss, xP_leq, xP_gtr, xP_geq, xP_max2, xP_min2, xR_eql, xR_neq, Nat.zero_add, Nat.add_zero, Nat.reduceAdd, List.getD_cons_zero, List.getD_cons_succ, xIf_true, xIf_false, FA_35_0, FA_35_1, FA_66_0, FA_66_1, FA_66_2, FA_82_0, FA_82_1, FA_82_2, FA_86_0, FA_86_1, LEN_29, LEN_32, LEN_47, LEN_48, LEN_79, LEN_116, xIf_dec]
  refine ⟨fun hlt => ?_, fun hge => ?_⟩
  · have hd := hk.then (kept_drew [] w1) (by simp)
    refine ha.get rowW hd (by omega) fun x hx => ?_
    refine hb.get rowW hd (by omega) fun y hy => ?_
    have hxl : (A.getD i []).length ≤ 1000000 := by rw [getD_lt (show i < A.length by omega)]; exact hs _ (List.getElem_mem _)
    refine xE_call CF_24 (sameB_ok (hx.kept0 hd) (hy.kept0 hd) (by omega)) ?_
    rintro _ w2 ⟨rfl, hk2⟩
    have hk02 := hd.then hk2 (by simp)
    simp only [xP_nil, xP_pick, xP_func, xP_not, xP_add, xP_sub, xP_mul, xP_lss, xP_leq, xP_gtr, xP_geq, xP_max2, xP_min2, xR_eql, xR_neq, Nat.zero_add, Nat.add_zero, Nat.reduceAdd, List.getD_cons_zero, List.getD_cons_succ, xIf_true, xIf_false, FA_35_0, FA_35_1, FA_66_0, FA_66_1, FA_66_2, FA_82_0, FA_82_1, FA_82_2, FA_86_0, FA_86_1, LEN_29, LEN_32, LEN_47, LEN_48, LEN_79, LEN_116, xIf_bool, Bool.not_eq_true', decide_eq_false_iff_not, Bool.not_eq_false', decide_eq_true_eq]
    refine ⟨fun hne => ⟨by rw [decide_eq_false (fun e => hne (by rw [e]))], hk02⟩, fun he => ?_⟩
    rw [wrap64 (by omega) (by omega)]
    refine ⟨⟨i + 1, rfl, by omega, fun j hj => ?_, hk02⟩, by omega⟩
    by_cases hji : j = i
    · rw [hji]; exact he
    · exact hb' j (by omega)
  · refine ⟨?_, hk⟩
    rw [decide_eq_true]
    refine List.ext_getElem (by omega) fun j h1 h2 => ?_
    have := hb' j (by omega)
    rwa [getD_lt h1, getD_lt h2] at this
theorem sameS {a b : Value} {A B : List (List UInt8)} {w : World} {K : Value → World → Prop} (ha : RowsT w a A) (hb : RowsT w b B) (hl : A.length ≤ 1000000) (hs : ∀ x ∈ A, x.length ≤ 1000000) (k : ∀ w', Kept [] w w' → K (.bool (decide (A = B))) w') : xE Tryd.prog (sCall 16 #[a, b]) w K :=
  xE_call CF_16 (same_ok ha hb hl hs) (fun u w' ⟨e, hk⟩ => by subst e; exact k w' hk)
/-! ### What is decoded is what was encoded -/
theorem ker_pts {k n : Nat} {l : List Pt} (hat : ∀ q ∈ l, 0 ≤ q.at_ ∧ q.at_ < n) (hn : n ≤ 256) (hk : k ≤ 256) (hll : l.length = k) (hnd : (l.map Pt.at_).Nodup) : Ker k (ptR k l) := fun u hu => by
  refine crows_ker (ats := l.map fun q => q.at_.toNat) ?_ (by rw [List.length_map]; exact hll) hk ?_ ?_
  · refine List.pairwise_iff_getElem.2 fun a b ha hb hab => ?_
    rw [List.length_map] at ha hb
    rw [List.getElem_map, List.getElem_map]
    have := List.pairwise_iff_getElem.1 hnd a b (by rwa [List.length_map]) (by rwa [List.length_map]) hab
    rw [List.getElem_map, List.getElem_map] at this
    have h1 := (hat _ (List.getElem_mem ha)).1
    have h2 := (hat _ (List.getElem_mem hb)).1
    intro e
    exact this (by omega)
  · intro a ha
    obtain ⟨q, hq, rfl⟩ := List.mem_map.1 ha
    have := hat q hq
    omega
  · intro a ha
    obtain ⟨q, hq, rfl⟩ := List.mem_map.1 ha
    obtain ⟨t, ht, rfl⟩ := List.getElem_of_mem hq
    have := hu t (by omega)
    unfold ptR at this
    rw [getD_lt ht] at this
    exact this
theorem rows_ext {X B : List (List UInt8)} {s : Nat} (h : X.length = B.length) (hX : ∀ b ∈ X, b.length = s) (hB : ∀ b ∈ B, b.length = s) (he : ∀ j, j < X.length → ∀ y, y < s → (X.getD j []).getD y 0 = (B.getD j []).getD y 0) : X = B := by
  refine List.ext_getElem h fun j h1 h2 => ?_
  have a1 := hX _ (List.getElem_mem h1)
  have a2 := hB _ (List.getElem_mem h2)
  refine ext8 (by rw [a1, a2]) fun y hy => ?_
  have := he j h1 y (by omega)
  rwa [getD_lt h1, getD_lt h2] at this
theorem dec_back {k n s : Nat} {l : List Pt} {X B : List (List UInt8)} (hn : n ≤ 8) (hbad : l.findIdx (badPt n l) = l.length) (hc : (chosenP k l).length = k) (hk : k ≤ 8) (hX : X.length = k) (hXs : ∀ b ∈ X, b.length = s) (hB : B.length = k) (hBs : ∀ b ∈ B, b.length = s)
    (hsol : Sol k s (fun j => X.getD j []) (ptR k (chosenP k l))) (henc : ∀ q ∈ chosenP k l, q.d = mixP (crow k q.at_.toNat) B s) : X = B := by
  have hker := ker_pts (k := k) (n := n) (l := chosenP k l) (fun q hq => by
    have := find_end hbad q (chosen_mem hq)
    unfold badPt at this
    simp only [decide_eq_false_iff_not, not_or] at this
    omega) (by omega) (by omega) hc (chosen_nd k l)
  have hsolB : Sol k s (fun j => B.getD j []) (ptR k (chosenP k l)) := fun t ht y hy => by
    unfold ptR
    simp only
    rw [getD_lt (l := chosenP k l) (by omega), henc _ (List.getElem_mem _), mixP_get hy, hB]
  exact rows_ext (by omega) hXs hBs fun j hj y hy => hsol.uniq hker hsolB j (by omega) y hy
end Go.Proofs.YtoanmeohlpdjfaaDoor
