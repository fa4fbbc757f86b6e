import Derived.Test.YthmjjdfjegjfeaaDoorXkDisk5
namespace Go.Proofs.YthmjjdfjegjfeaaDoor
set_option linter.unusedSimpArgs false
set_option linter.unusedVariables false
set_option maxRecDepth 100000
attribute [local irreducible] Go.X.xE
open Go Go.X Go.RowKit

/-! ## DiskRots -/
theorem rotBad_of {D : Dk} {i a c : Int} (h : a < 0 ∨ 124 < a ∨ c = 0 ∨ i < 0 ∨ (D.sec.length : Int) ≤ i ∨ D.dead = true) : D.rotBad i a c = true := by
  have hk : D.refK i (decide (a < 0 ∨ 124 < a ∨ c = 0)) ≠ 0 := by
    unfold Dk.refK
    split
    · simp
    · rename_i hd
      rw [if_pos]
      · simp
      · rcases h with h | h | h | h | h | h
        · exact .inl (decide_eq_true (.inl h))
        · exact .inl (decide_eq_true (.inr (.inl h)))
        · exact .inl (decide_eq_true (.inr (.inr h)))
        · exact .inr (.inl h)
        · exact .inr (.inr h)
        · exact absurd h hd
  unfold Dk.rotBad
  rw [decide_eq_false hk]
  rfl
theorem rotBad_ok {D : Dk} {i a : Nat} {c : Int} (hd : D.dead = false) (ha : a ≤ 124) (hc : c ≠ 0) (hi : i < D.sec.length) : D.rotBad i a c = D.rot i := by
  have hk : D.refK (i : Int) (decide ((a : Int) < 0 ∨ 124 < (a : Int) ∨ c = 0)) = 0 := by
    rw [show decide ((a : Int) < 0 ∨ 124 < (a : Int) ∨ c = 0) = false from decide_eq_false (by omega)]
    exact refK_ok hd hi
  unfold Dk.rotBad
  rw [hk]
  simp
theorem rotUp_get (x : List UInt8) (a : Nat) (c : Int) (hx : x.length = 128) : ∀ n, a + n ≤ 128 → ∀ i, i < 128 → (rotUp x a c n).getD i 0 = if a ≤ i ∧ i < a + n then x.getD i 0 ^^^ byteOf c (i - a) else x.getD i 0
  | 0, _, i, _ => by rw [if_neg (by omega)]; rfl
  | n + 1, hn, i, hi => by
    have hl := rotUp_len x a c n
    have e : (rotUp x a c (n + 1)).getD i 0 = if a + n = i then (rotUp x a c n).getD (a + n) 0 ^^^ byteOf c n else (rotUp x a c n).getD i 0 := by
      rw [rotUp, List.getD_eq_getElem?_getD, List.getElem?_set]
      split
      · rw [if_pos (by omega)]; rfl
      · rw [List.getD_eq_getElem?_getD]
    rw [e]
    split
    · rename_i h
      subst h
      rw [rotUp_get x a c hx n (by omega) (a + n) hi, if_neg (by omega), if_pos (by omega), Nat.add_sub_cancel_left]
    · rename_i h
      rw [rotUp_get x a c hx n (by omega) i hi]
      by_cases h2 : a ≤ i ∧ i < a + n
      · rw [if_pos h2, if_pos (by omega)]
      · rw [if_neg h2, if_neg (by omega)]
theorem byteOf_zero (k : Nat) : byteOf 0 k = 0 := by
  unfold byteOf
  rw [Int.zero_ediv]
  rfl
theorem rotNo {w0 w : World} {p : Nat} {D : Dk} {X : List Nat} {K : Value → World → Prop} {i a c : Int} (h : DX w0 w p D X) (hb : D.rotBad i a c = true) (k : ∀ w' M, DX w0 w' p D X → Kept M w w' → (∀ g ∈ M, g ∉ X) → K (.bool false) w') :
    xE Tryd.prog (sCall 14 #[.pointer (some ⟨p, 0, none⟩), .int .i64 i, .int .i64 a, .int .u32 c]) w K := by
  refine rotD h fun w' M h' hk hM => ?_
  rw [hb, if_pos rfl] at h'
  rw [hb]
  exact k w' M h' hk hM
theorem rotYes {w0 w : World} {p : Nat} {D : Dk} {X : List Nat} {K : Value → World → Prop} {i a c : Int} (h : DX w0 w p D X) (hb : D.rotBad i a c = false) (k : ∀ w' M, DX w0 w' p (D.rotd i.toNat a.toNat c) X → Kept M w w' → (∀ g ∈ M, g ∉ X) → K (.bool true) w') :
    xE Tryd.prog (sCall 14 #[.pointer (some ⟨p, 0, none⟩), .int .i64 i, .int .i64 a, .int .u32 c]) w K := by
  refine rotD h fun w' M h' hk hM => ?_
  rw [hb, if_neg (by simp)] at h'
  rw [hb]
  exact k w' M h' hk hM
theorem BOOLG6 : boolB Tryd.prog 4 := by unfold boolB; kernel_rfl
theorem drots_ok {x n : UInt8} {at_ by_ : Int} {w : World} (hgl : Glob w) (hb0 : 0 ≤ by_) :
    Gives Tryd.prog 5 #[.int .u8 x.toNat, .int .i64 at_, .int .u32 by_, .int .u8 n.toNat] w fun u w' => u = .bool true ∧ Kept [] w w' := by
  refine C_stavelaw6_DiskRots ?_
  unfold S_stavelaw6_DiskRots
  refine newD (by omega) (by omega) fun p w1 h1 _ => ?_
  simp only [xP_ex0, xP_ex1]
  have e0 : (Dk.new 2).sec.length = 2 := rfl
  refine xJoin_of (fun ls w' => ls = [.bool false] ∧ DX w w' p ((Dk.new 2).write 1 (all x)).flush []) ?_ ?_
  · refine (xR_pnil PT_22).2 ?_
    simp only [Option.isNone_some, xIf_false]
    refine (xR_neqN IFE).2 ?_
    simp only [xIf_false]
    refine sectorS fun sv w2 hsv hk2 _ => ?_
    refine writeG (i := 1) (h1.next hk2) hsv (all_len _) rfl (by show 1 < 2; omega) fun w3 M3 h3 _ _ => ?_
    refine (xR_neqN IFE).2 ?_
    simp only [xIf_false]
    refine flushG h3 rfl fun w4 M4 h4 _ _ => ?_
    refine (xR_neqN IFE).2 ?_
    exact ⟨rfl, h4⟩
  rintro _ _ w2 ⟨rfl, h2⟩
  simp only [List.getD_cons_zero, xIf_false]
  have d2 : (((Dk.new 2).write 1 (all x)).flush).dead = false := rfl
  have l2 : (((Dk.new 2).write 1 (all x)).flush).sec.length = 2 := rfl
  have r2 : (((Dk.new 2).write 1 (all x)).flush).read 1 = all x := rfl
  have o2 : (((Dk.new 2).write 1 (all x)).flush).rot 1 = false := rfl
  have w2' : (((Dk.new 2).write 1 (all x)).flush).wt 1 = none := rfl
  generalize ((Dk.new 2).write 1 (all x)).flush = D at *
  refine withinN (by omega) (by omega) (by omega) fun k _ _ hk124 => ?_
  refine xJoin_of (fun ls w' => ls = [.bool false] ∧ DX w w' p D []) ?_ ?_
  · refine rotNo h2 (rotBad_of (.inr (.inr (.inl rfl)))) fun w3 _ h3 _ _ => ?_
    simp only [xIf_false]
    refine rotNo h3 (rotBad_of (.inl (by omega))) fun w4 _ h4 _ _ => ?_
    simp only [xIf_false]
    refine rotNo h4 (rotBad_of (.inr (.inl (by omega)))) fun w5 _ h5 _ _ => ?_
    simp only [xIf_false]
    refine rotNo h5 (rotBad_of (.inr (.inr (.inr (.inr (.inl (by rw [l2]; omega))))))) fun w6 _ h6 _ _ => ?_
    exact ⟨rfl, h6⟩
  rintro _ _ w3 ⟨rfl, h3⟩
  simp only [List.getD_cons_zero, xIf_false]
  refine readG (i := 1) h3 d2 (by omega) fun b w4 X4 h4 _ _ hb4 => ?_
  rw [r2] at hb4
  simp only [xP_ex0, xP_ex1]
  refine xJoin_of (fun ls w' => ls = [.bool false] ∧ ∃ X, DX w w' p (if by_ = 0 then D else D.rotd 1 k by_) X) ?_ ?_
  · refine sectorS fun sv w5 hsv hk5 _ => ?_
    refine sameBS (hb4.kept0 hk5).1 hsv (by rw [all_len]; omega) fun w6 hk6 => ?_
    simp only [decide_true, xP_not, Bool.not_true, xIf_false]
    by_cases hc : by_ = 0
    · refine rotNo ((h4.next hk5).next hk6) (rotBad_of (.inr (.inr (.inl hc)))) fun w7 _ h7 _ _ => ?_
      simp only [xR_neq]
      refine (xR_neqBool BOOLG6).2 ?_
      rw [if_pos hc]
      exact ⟨by simp [hc], X4, h7⟩
    · refine rotYes ((h4.next hk5).next hk6) ((rotBad_ok (i := 1) d2 (by omega) hc (by omega)).trans o2) fun w7 _ h7 _ _ => ?_
      simp only [xR_neq]
      refine (xR_neqBool BOOLG6).2 ?_
      rw [if_neg hc]
      exact ⟨by simp [hc], X4, by simpa using h7⟩
  rintro _ _ w5 ⟨rfl, X5, h5⟩
  simp only [List.getD_cons_zero, xIf_false]
  have d5 : (if by_ = 0 then D else D.rotd 1 k by_).dead = false := by split <;> exact d2
  have l5 : (if by_ = 0 then D else D.rotd 1 k by_).sec.length = 2 := by
    split
    · exact l2
    · show (D.sec.set 1 _).length = 2
      rw [List.length_set, l2]
  have o5 : (if by_ = 0 then D else D.rotd 1 k by_).rot 1 = decide (by_ ≠ 0) := by
    split
    · rename_i hc; rw [o2, decide_eq_false (by simp [hc])]
    · rename_i hc; rw [decide_eq_true hc]; rfl
  have r5 : ((if by_ = 0 then D else D.rotd 1 k by_).read 1).length = 128 ∧ ∀ i, i < 128 → ((if by_ = 0 then D else D.rotd 1 k by_).read 1).getD i 0 = if k ≤ i ∧ i < k + 4 then x ^^^ byteOf by_ (i - k) else x := by
    have hx : ∀ i, i < 128 → (all x).getD i 0 = x := fun i hi => by rw [List.getD_eq_getElem?_getD, all, List.getElem?_replicate, if_pos hi]; rfl
    have hs : D.sec.getD 1 [] = all x := by
      rw [← r2]; unfold Dk.read; rw [w2']; rfl
    by_cases hc : by_ = 0
    · rw [if_pos hc, r2]
      refine ⟨all_len _, fun i hi => ?_⟩
      rw [hx i hi, hc, byteOf_zero]
      split <;> simp
    · rw [if_neg hc]
      have e : (D.rotd 1 k by_).read 1 = rotUp (all x) k by_ 4 := by
        unfold Dk.read Dk.rotd
        simp only
        rw [w2', hs, List.getD_eq_getElem?_getD, List.getElem?_set_self (by omega)]
        rfl
      rw [e]
      refine ⟨by rw [rotUp_len, all_len], fun i hi => ?_⟩
      rw [rotUp_get (all x) k by_ (all_len _) 4 (by omega) i hi, hx i hi]
  generalize (if by_ = 0 then D else D.rotd 1 k by_) = E at *
  obtain ⟨r51, r52⟩ := r5
  refine readG (i := 1) h5 d5 (by omega) fun b w6 X6 h6 hk6 _ hb6 => ?_
  simp only [xP_ex0, xP_ex1]
  obtain ⟨⟨ba, bc, rfl, q1, q2⟩, _⟩ := hb6
  have hb6 : SlT w6 encB (.slice ba (E.read 1).length bc) (E.read 1) := ⟨ba, bc, rfl, q1, q2⟩
  generalize hy : E.read 1 = y at *
  rw [r51]
  simp only [xP_nil, xP_pick, xP_func, xP_not, xP_add, xP_sub, xP_mul, xP_lss, xP_leq, xP_gtr, xP_geq, xP_max2, xP_min2, xR_eql, xR_neq, Nat.zero_add, Nat.add_zero, Nat.reduceAdd, List.getD_cons_zero, List.getD_cons_succ, xIf_true, xIf_false, FA_44_0, FA_44_1, FA_44_2, FA_44_3, FA_44_4, FA_44_5, FA_63_0, FA_63_1, FA_63_2, FA_63_3, FA_71_0, FA_71_1, FA_71_2, FA_71_3, FA_81_2, LEN_28, LEN_40, LEN_46, LEN_59, LEN_106, show decide (((128 : Nat) : Int) ≠ 128) = false from rfl, xIf_false]
  rw [← r51]
  refine xLoop_of (fun ls w' => ∃ i : Nat, ls = [.int .i64 i] ∧ i ≤ 128 ∧ w6 = w') (fun ls _ => match ls with | [.int _ i] => 128 - i.toNat | _ => 0) ⟨0, rfl, by omega, rfl⟩ ?_
  rintro _ _ _ ⟨i, rfl, hi, rfl⟩
  simp only [xP_nil, xP_pick, xP_func, xP_not, xP_add, xP_sub, xP_mul, xP_lss, xP_leq, xP_gtr, xP_geq, xP_max2, xP_min2, xR_eql, xR_neq, Nat.zero_add, Nat.add_zero, Nat.reduceAdd, List.getD_cons_zero, List.getD_cons_succ, xIf_true, xIf_false, FA_44_0, FA_44_1, FA_44_2, FA_44_3, FA_44_4, FA_44_5, FA_63_0, FA_63_1, FA_63_2, FA_63_3, FA_71_0, FA_71_1, FA_71_2, FA_71_3, FA_81_2, LEN_28, LEN_40, LEN_46, LEN_59, LEN_106, xIf_dec]
  refine ⟨fun hlt => ?_, fun hge => ?_⟩
  · have hil : i < y.length := by omega
    refine xJoin_of (fun ls w' => ls = [.int .u8 (if k ≤ i ∧ i < k + 4 then x ^^^ byteOf by_ (i - k) else x).toNat] ∧ w6 = w') ?_ ?_
    · refine xJoin_of (fun ls w' => ls = [.bool (decide (k ≤ i ∧ i < k + 4))] ∧ w6 = w') ?_ ?_
      · simp only [xP_nil, xP_pick, xP_func, xP_not, xP_add, xP_sub, xP_mul, xP_lss, xP_leq, xP_gtr, xP_geq, xP_max2, xP_min2, xR_eql, xR_neq, Nat.zero_add, Nat.add_zero, Nat.reduceAdd, List.getD_cons_zero, List.getD_cons_succ, xIf_true, xIf_false, FA_44_0, FA_44_1, FA_44_2, FA_44_3, FA_44_4, FA_44_5, FA_63_0, FA_63_1, FA_63_2, FA_63_3, FA_71_0, FA_71_1, FA_71_2, FA_71_3, FA_81_2, LEN_28, LEN_40, LEN_46, LEN_59, LEN_106, xIf_dec]
        rw [wrap64 (by omega) (by omega)]
        refine ⟨fun h1 => ⟨by rw [decide_eq_decide.2 (show ((i : Int) < (k : Int) + 4) ↔ (k ≤ i ∧ i < k + 4) by omega)], trivial⟩, fun h1 => ⟨by rw [decide_eq_false (by omega)], trivial⟩⟩
      rintro _ _ _ ⟨rfl, rfl⟩
      simp only [List.getD_cons_zero, xIf_dec]
      refine ⟨fun hin => ?_, fun hout => ?_⟩
      · try simp only [xP_nil, xP_pick, xP_func, xP_not, xP_add, xP_sub, xP_mul, xP_lss, xP_leq, xP_gtr, xP_geq, xP_max2, xP_min2, xR_eql, xR_neq, Nat.zero_add, Nat.add_zero, Nat.reduceAdd, List.getD_cons_zero, List.getD_cons_succ, xIf_true, xIf_false, FA_44_0, FA_44_1, FA_44_2, FA_44_3, FA_44_4, FA_44_5, FA_63_0, FA_63_1, FA_63_2, FA_63_3, FA_71_0, FA_71_1, FA_71_2, FA_71_3, FA_81_2, LEN_28, LEN_40, LEN_46, LEN_59, LEN_106]
        rw [wrap64 (x := (i : Int) - k) (by omega) (by omega), wrap64 (by omega) (by omega)]
        refine (xP_shr (by omega)).2 ?_
        refine (xP_conv INT_35 INT_5).2 ?_
        rw [show (8 * ((i : Int) - k)).toNat = 8 * (i - k) by omega]
        rw [show IntKind.u8.wrap (by_ / 2 ^ min (8 * (i - k)) IntKind.u32.bits) = ((byteOf by_ (i - k)).toNat : Int) from byteOf_val by_ (i - k)]
        refine xP_xorB.2 ?_
        rw [if_pos hin]
        exact ⟨rfl, trivial⟩
      · rw [if_neg hout]
        exact ⟨rfl, trivial⟩
    rintro _ _ _ ⟨rfl, rfl⟩
    refine (rowB.get hb6 (Kept.refl _ _) hil).2 ?_
    have e : y[i] = if k ≤ i ∧ i < k + 4 then x ^^^ byteOf by_ (i - k) else x := by
      rw [← r52 i (by omega), List.getD_eq_getElem?_getD, List.getElem?_eq_getElem hil]; rfl
    rw [e]
    simp only [xP_nil, xP_pick, xP_func, xP_not, xP_add, xP_sub, xP_mul, xP_lss, xP_leq, xP_gtr, xP_geq, xP_max2, xP_min2, xR_eql, xR_neq, Nat.zero_add, Nat.add_zero, Nat.reduceAdd, List.getD_cons_zero, List.getD_cons_succ, xIf_true, xIf_false, FA_44_0, FA_44_1, FA_44_2, FA_44_3, FA_44_4, FA_44_5, FA_63_0, FA_63_1, FA_63_2, FA_63_3, FA_71_0, FA_71_1, FA_71_2, FA_71_3, FA_81_2, LEN_28, LEN_40, LEN_46, LEN_59, LEN_106, ne_eq, not_true_eq_false, decide_false, xIf_false]
    rw [wrap64 (by omega) (by omega)]
    exact ⟨⟨i + 1, rfl, by omega, trivial⟩, by omega⟩
  clear hb6 q1 q2 r52 hk6
  refine xJoin_of (fun ls w' => ls = [.bool false] ∧ ∃ (X : List Nat) (F : Dk), DX w w' p (F.write 1 (all n)) X ∧ F.dead = false ∧ F.sec.length = 2) ?_ ?_
  · have hb7 : E.rotBad 1 k 9 = decide (by_ ≠ 0) := (rotBad_ok (i := 1) d5 (by omega) (by omega) (by omega)).trans o5
    suffices hs : ∀ (F : Dk) (w7 : World), DX w w7 p F X6 → F.dead = false → F.sec.length = 2 → xE Tryd.prog (sCall 11 #[.int .u8 n.toNat]) w7 fun v123 w88 => xE Tryd.prog (sCall 10 #[.pointer (some ⟨p, 0, none⟩), .int .i64 1, v123]) w88 fun v124 w90 => xR Tryd.prog (sEq .neq 24 true v124 .nilIface) w90 fun v125 => [v125] = [.bool false] ∧ ∃ (X : List Nat) (F : Dk), DX w w90 p (F.write 1 (all n)) X ∧ F.dead = false ∧ F.sec.length = 2 by
      by_cases hc : by_ = 0
      · refine rotYes h6 (by rw [hb7]; simp [hc]) fun w7 _ h7 _ _ => ?_
        simp only [xR_eql]
        refine (xR_neqBool BOOLG6).2 ?_
        rw [decide_eq_true hc]
        simp only [beq_self_eq_true, Bool.not_true, xIf_false]
        exact hs _ w7 h7 d5 (by show (E.sec.set _ _).length = 2; rw [List.length_set, l5])
      · refine rotNo h6 (by rw [hb7]; simp [hc]) fun w7 _ h7 _ _ => ?_
        simp only [xR_eql]
        refine (xR_neqBool BOOLG6).2 ?_
        rw [decide_eq_false hc]
        simp only [beq_self_eq_true, Bool.not_true, xIf_false]
        exact hs _ w7 h7 d5 l5
    intro F w7 h7 dF lF
    refine sectorS fun sv w8 hsv hk8 _ => ?_
    refine writeG (i := 1) (h7.next hk8) hsv (all_len _) dF (by omega) fun w9 M9 h9 _ _ => ?_
    refine (xR_neqN IFE).2 ?_
    exact ⟨rfl, X6, F, h9, dF, lF⟩
  rintro _ _ w7 ⟨rfl, X7, F, h7, dF, lF⟩
  simp only [List.getD_cons_zero, xIf_false]
  have r7 : (F.write 1 (all n)).read 1 = all n := rfl
  refine readG (i := 1) h7 dF (by show 1 < F.sec.length; omega) fun b w8 X8 h8 _ _ hb8 => ?_
  rw [r7] at hb8
  simp only [xP_ex0, xP_ex1]
  refine xJoin_of (fun ls w' => ls = [.bool false] ∧ Kept [] w w') ?_ ?_
  · refine sectorS fun sv w9 hsv hk9 _ => ?_
    refine sameBS (hb8.kept0 hk9).1 hsv (by rw [all_len]; omega) fun w10 hk10 => ?_
    simp only [decide_true, xP_not, Bool.not_true, xIf_false]
    refine flushG ((h8.next hk9).next hk10) dF fun w11 M11 h11 _ _ => ?_
    refine (xR_neqN IFE).2 ?_
    simp only [xIf_false]
    have hb12 : (F.write 1 (all n)).flush.rotBad 1 k 1 = false := by
      have := rotBad_ok (D := (F.write 1 (all n)).flush) (i := 1) (a := k) (c := 1) dF (by omega) (by omega) (by unfold Dk.flush; rw [drain_len]; show 1 < F.sec.length; omega)
      exact this.trans rfl
    refine rotYes h11 hb12 fun w12 _ h12 _ _ => ?_
    refine xP_not.2 ?_
    exact ⟨rfl, h12.k0⟩
  rintro _ _ w9 ⟨rfl, hk9⟩
  simp only [List.getD_cons_zero, xIf_false]
  exact dRunsG hgl hk9

/-! ## DiskFlushed -/
theorem bit1_zero (k : Nat) : bit1 0 k = false := by
  unfold bit1
  rw [Int.zero_ediv]
  rfl
theorem dflushed_ok {bits : Int} {l more : List DA} {v v2 : Value} {w : World} (hgl : Glob w) (hl : SlT w encA v l) (hmore : SlT w encA v2 more) :
    Gives Tryd.prog 6 #[v, v2, .int .u64 bits] w fun u w' => u = .bool true ∧ Kept [] w w' := by
  refine C_stavelaw6_DiskFlushed ?_
  unfold S_stavelaw6_DiskFlushed
  obtain ⟨la, lc, rfl, hlc, hlr⟩ := hl
  have hl : SlT w encA (.slice la l.length lc) l := ⟨la, lc, rfl, hlc, hlr⟩
  obtain ⟨ma, mc, rfl, hmc, hmr⟩ := hmore
  have hmore : SlT w encA (.slice ma more.length mc) more := ⟨ma, mc, rfl, hmc, hmr⟩
  refine newD (by omega) (by omega) fun p w1 h1 _ => ?_
  simp only [xP_ex0, xP_ex1]
  refine madeT fun _ => ?_
  simp only [List.getD_cons_zero, xIf_false]
  refine xE_alloc Z_50 fun w2 hb2 hk2 hz2 => ?_
  have hb2' : Blk w2 w1.heap.size 50 ((List.replicate 5 (0 : UInt8)).flatMap encB) := hb2
  have hz1 := h1.k0.size
  have h2 : DX w w2 p (Dk.new 5) [w1.heap.size] := h1.more hk2 (fun g hg => by simp at hg; subst hg; exact ⟨.inr (by omega), by omega⟩)
  generalize hH : w1.heap.size = H at *
  have hHw : w.heap.size ≤ H := by omega
  clear hb2
  refine xLoop_of (fun ls w' => ∃ (i : Nat) (D : Dk) (hs : List UInt8), ls = [.int .i64 i] ∧ i ≤ l.length ∧ i ≤ 20 ∧ hs.length = 5 ∧ DX w w' p D [H] ∧ Blk w' H 50 (hs.flatMap encB) ∧ D.dead = false ∧ D.sec.length = 5 ∧ Rd D 5 hs)
    (fun ls _ => match ls with | [.int _ i] => 20 - i.toNat | _ => 0) ⟨0, Dk.new 5, List.replicate 5 0, rfl, by omega, by omega, by simp, h2, hb2', rfl, by simp [Dk.new], (new_read 5).1⟩ ?_
  rintro _ _ w4 ⟨i, D, hs, rfl, hi, hi20, hhs, h4, hbH, hd, hsl, hrd⟩
  refine askT fun _ => ?_
  simp only [List.getD_cons_zero, xIf_dec]
  refine ⟨fun hgo => ?_, fun hstop => ?_⟩
  · have hil := hgo.1
    refine rowDA.fldA hl h4.k0 hil (show fieldB Tryd.prog 44 1 1 = true by kernel_rfl) ONE_3 (u := .int .i64 (l[i]).i) rfl fun A1 _ => ?_
    refine withinN (by omega) (by omega) (by omega) fun k _ _ hk5 => ?_
    refine rowDA.fldA hl h4.k0 hil (show fieldB Tryd.prog 44 3 3 = true by kernel_rfl) ONE_5 (u := .int .u8 (l[i]).x.toNat) rfl fun A2 _ => ?_
    refine sectorS fun sv w5 hsv hk5' _ => ?_
    refine writeG (h4.next hk5') hsv (all_len _) hd (by omega) fun w6 M h6 hk6 hM6 => ?_
    refine (xR_neqN IFE).2 ?_
    simp only [xIf_false]
    refine rowDA.fldA hl h6.k0 hil (show fieldB Tryd.prog 44 3 3 = true by kernel_rfl) ONE_5 (u := .int .u8 (l[i]).x.toNat) rfl fun A3 _ => ?_
    generalize (l[i]).x = x at *
    refine (xP_IAarr ARR5 SZ_5 (show k < 5 by omega)).2 ?_
    rw [Nat.zero_add, Nat.mul_one]
    have hb6 := (hbH.kept hk5' (by simp)).kept hk6 (fun hm => hM6 H hm (by simp))
    refine xE_store1 SZ_5 hb6 (by rw [flat_len encB_len]; omega) rfl fun w7 hb7 hk7 hz7 => ?_
    rw [flip_set] at hb7
    simp only [xP_nil, xP_pick, xP_func, xP_not, xP_add, xP_sub, xP_mul, xP_lss, xP_leq, xP_gtr, xP_geq, xP_max2, xP_min2, xR_eql, xR_neq, Nat.zero_add, Nat.add_zero, Nat.reduceAdd, List.getD_cons_zero, List.getD_cons_succ, xIf_true, xIf_false, FA_44_0, FA_44_1, FA_44_2, FA_44_3, FA_44_4, FA_44_5, FA_63_0, FA_63_1, FA_63_2, FA_63_3, FA_71_0, FA_71_1, FA_71_2, FA_71_3, FA_81_2, LEN_28, LEN_40, LEN_46, LEN_59, LEN_106]
    rw [wrap64 (by omega) (by omega)]
    refine ⟨⟨i + 1, _, _, rfl, by omega, by omega, by rw [List.length_set, hhs], h6.own hk7 (by simp) (by simp; exact hHw) (fun g hg => ⟨.inl hg, by have := h6.lt g hg; omega⟩), hb7, hd, hsl, hrd.write hhs⟩, by omega⟩
  refine xJoin_of (fun ls w' => ls = [.bool false] ∧ DX w w' p D.flush [H] ∧ Blk w' H 50 (hs.flatMap encB)) ?_ ?_
  · refine flushG h4 hd fun w5 M5 h5 hk5 hM5 => ?_
    have hbH5 := hbH.kept hk5 (fun hm => hM5 H hm (by simp))
    refine (xR_neqN IFE).2 ?_
    simp only [xIf_false]
    refine waitsD h5 fun uv w6 huv hk6 _ => ?_
    rw [show D.flush.ws = [] from drain_ws _ _] at huv
    obtain ⟨ua, uc, rfl, _, _⟩ := huv
    simp only [xP_nil, xP_pick, xP_func, xP_not, xP_add, xP_sub, xP_mul, xP_lss, xP_leq, xP_gtr, xP_geq, xP_max2, xP_min2, xR_eql, xR_neq, Nat.zero_add, Nat.add_zero, Nat.reduceAdd, List.getD_cons_zero, List.getD_cons_succ, xIf_true, xIf_false, FA_44_0, FA_44_1, FA_44_2, FA_44_3, FA_44_4, FA_44_5, FA_63_0, FA_63_1, FA_63_2, FA_63_3, FA_71_0, FA_71_1, FA_71_2, FA_71_3, FA_81_2, LEN_28, LEN_40, LEN_46, LEN_59, LEN_106]
    exact ⟨rfl, h5.next hk6, hbH5.kept hk6 (by simp)⟩
  rintro _ _ w5 ⟨rfl, h5, hbH5⟩
  simp only [List.getD_cons_zero, xIf_false]
  have hsc5 : Sc D.flush 5 hs := fun k hk => by rw [flush_sec D (by omega)]; exact hrd k hk
  have hd5 : D.flush.dead = false := hd
  have hsl5 : D.flush.sec.length = 5 := by unfold Dk.flush; rw [drain_len, hsl]
  have hwt5 : ∀ k, D.flush.wt k = none := fun k => rfl
  generalize D.flush = E at *
  refine crashD h5 fun _ w6 M6 h6 hk6 hM6 => ?_
  have hbH6 := hbH5.kept hk6 (fun hm => hM6 H hm (by simp))
  have hsc6 : Sc (E.crash bits) 5 hs := fun k hk => by
    unfold Dk.crash
    rw [drain_sec E _ (by omega), hwt5]
    split <;> exact hsc5 k hk
  have hd6 : (E.crash bits).dead = false := hd5
  have hsl6 : (E.crash bits).sec.length = 5 := by unfold Dk.crash; rw [drain_len, hsl5]
  generalize E.crash bits = G at *
  refine xLoop_of (fun ls w' => ∃ (i : Nat) (D : Dk), ls = [.int .i64 i] ∧ i ≤ more.length ∧ i ≤ 9 ∧ DX w w' p D [H] ∧ Blk w' H 50 (hs.flatMap encB) ∧ D.dead = false ∧ D.sec.length = 5 ∧ Sc D 5 hs)
    (fun ls _ => match ls with | [.int _ i] => 9 - i.toNat | _ => 0) ⟨0, G, rfl, by omega, by omega, h6, hbH6, hd6, hsl6, hsc6⟩ ?_
  rintro _ _ w7 ⟨i, D, rfl, hi, hi9, h7, hbH7, hd7, hsl7, hsc7⟩
  refine askT fun _ => ?_
  simp only [List.getD_cons_zero, xIf_dec]
  refine ⟨fun hgo => ?_, fun hstop => ?_⟩
  · have hil := hgo.1
    have hdr := kept_drew [] w7
    have h7d := h7.next hdr
    refine rowDA.fldA hmore h7d.k0 hil (show fieldB Tryd.prog 44 1 1 = true by kernel_rfl) ONE_3 (u := .int .i64 (more[i]).i) rfl fun A1 _ => ?_
    refine rowDA.fldA hmore h7d.k0 hil (show fieldB Tryd.prog 44 3 3 = true by kernel_rfl) ONE_5 (u := .int .u8 (more[i]).x.toNat) rfl fun A2 hA2 => ?_
    refine withinN (by omega) (by omega) (by omega) fun k _ _ hk5 => ?_
    refine (still1 ONE_5 (hA2 _ h7d.k0)).2 ?_
    refine sectorS fun sv w8 hsv hk8 _ => ?_
    refine writeG (h7d.next hk8) hsv (all_len _) hd7 (by omega) fun w9 M9 h9 hk9 hM9 => ?_
    refine (xR_neqN IFE).2 ?_
    simp only [xIf_false]
    have hb9 := (hbH7.kept (hdr.then hk8 (by simp)) (by simp)).kept hk9 (fun hm => hM9 H hm (by simp))
    try simp only [xP_nil, xP_pick, xP_func, xP_not, xP_add, xP_sub, xP_mul, xP_lss, xP_leq, xP_gtr, xP_geq, xP_max2, xP_min2, xR_eql, xR_neq, Nat.zero_add, Nat.add_zero, Nat.reduceAdd, List.getD_cons_zero, List.getD_cons_succ, xIf_true, xIf_false, FA_44_0, FA_44_1, FA_44_2, FA_44_3, FA_44_4, FA_44_5, FA_63_0, FA_63_1, FA_63_2, FA_63_3, FA_71_0, FA_71_1, FA_71_2, FA_71_3, FA_81_2, LEN_28, LEN_40, LEN_46, LEN_59, LEN_106]
    rw [wrap64 (by omega) (by omega)]
    exact ⟨⟨i + 1, _, rfl, by omega, by omega, h9, hb9, hd7, hsl7, hsc7.write⟩, by omega⟩
  refine crashD h7 fun _ w8 M8 h8 hk8 hM8 => ?_
  have hbH8 := hbH7.kept hk8 (fun hm => hM8 H hm (by simp))
  have hrd8 : Rd (D.crash 0) 5 hs := fun k hk => by
    unfold Dk.crash
    rw [drain_read D _ (by omega)]
    have : D.crashS 0 k = false := by unfold Dk.crashS; rw [bit1_zero, Bool.and_false]
    rw [this]
    exact hsc7 k hk
  have hd8 : (D.crash 0).dead = false := hd7
  have hsl8 : (D.crash 0).sec.length = 5 := by unfold Dk.crash; rw [drain_len, hsl7]
  generalize D.crash 0 = D2 at *
  refine xLoop_of (fun ls w' => ∃ (k : Nat) (X : List Nat), ls = [.int .i64 k] ∧ k ≤ 5 ∧ DX w w' p D2 X ∧ Kept [] w8 w') (fun ls _ => match ls with | [.int _ k] => 5 - k.toNat | _ => 0) ⟨0, _, rfl, by omega, h8, Kept.refl _ _⟩ ?_
  rintro _ _ w9 ⟨k, X, rfl, hk, h9, hk9⟩
  simp only [xP_nil, xP_pick, xP_func, xP_not, xP_add, xP_sub, xP_mul, xP_lss, xP_leq, xP_gtr, xP_geq, xP_max2, xP_min2, xR_eql, xR_neq, Nat.zero_add, Nat.add_zero, Nat.reduceAdd, List.getD_cons_zero, List.getD_cons_succ, xIf_true, xIf_false, FA_44_0, FA_44_1, FA_44_2, FA_44_3, FA_44_4, FA_44_5, FA_63_0, FA_63_1, FA_63_2, FA_63_3, FA_71_0, FA_71_1, FA_71_2, FA_71_3, FA_81_2, LEN_28, LEN_40, LEN_46, LEN_59, LEN_106, xIf_dec]
  refine ⟨fun hlt => ?_, fun hge => dRunsG hgl h9.k0⟩
  have hk5 : k < 5 := by omega
  refine readG h9 hd8 (by omega) fun b w10 X10 h10 hk10 _ hb10 => ?_
  rw [hrd8 k hk5] at hb10
  simp only [xP_ex0, xP_ex1]
  refine xJoin_of (fun ls w' => ls = [.bool false] ∧ Kept [] w10 w') ?_ ?_
  · refine (xR_neqN IFE).2 ?_
    simp only [xIf_false]
    refine (xP_IAarr ARR5 SZ_5 hk5).2 ?_
    rw [Nat.zero_add, Nat.mul_one]
    refine (ld1 ONE_5 (((hbH8.kept (hk9.then hk10 (by simp)) (by simp)).cell (o := k)).trans (getD_cell (by omega)))).2 ?_
    refine sectorS fun sv w11 hsv hk11 _ => ?_
    refine sameBS (hb10.kept0 hk11).1 hsv (by rw [all_len]; omega) fun w12 hk12 => ?_
    simp only [decide_true, xP_not, Bool.not_true]
    exact ⟨trivial, hk11.then hk12 (by simp)⟩
  rintro _ _ w11 ⟨rfl, hk11⟩
  simp only [List.getD_cons_zero, xIf_false]
  rw [wrap64 (by omega) (by omega)]
  exact ⟨⟨k + 1, X10, rfl, by omega, h10.next hk11, (hk9.then hk10 (by simp)).then hk11 (by simp)⟩, by omega⟩

/-! ## DiskGone -/
theorem xP_orB {P : Program} {T : TypeId} {K : Value → Prop} {a b : UInt8} : xP P (sBin .or T (.int .u8 a.toNat) (.int .u8 b.toNat)) K ↔ K (.int .u8 (a ||| b).toNat) :=
  xP_or.trans (Iff.of_eq (congrArg (fun z => K (.int .u8 z)) (by
    have e : (BitVec.ofInt IntKind.u8.bits ((a.toNat : Nat) : Int) ||| BitVec.ofInt IntKind.u8.bits ((b.toNat : Nat) : Int)).toNat = (a ||| b).toNat := by
      show (BitVec.ofInt 8 ((a.toNat : Nat) : Int) ||| BitVec.ofInt 8 ((b.toNat : Nat) : Int)).toNat = _
      rw [UInt8.toNat_or, BitVec.toNat_or, BitVec.toNat_ofInt, BitVec.toNat_ofInt]
      have ha := a.toNat_lt
      have hb := b.toNat_lt
      have e1 : (((a.toNat : Nat) : Int) % ((2 : Nat) ^ 8 : Nat)).toNat = a.toNat := by omega
      have e2 : (((b.toNat : Nat) : Int) % ((2 : Nat) ^ 8 : Nat)).toNat = b.toNat := by omega
      rw [e1, e2]
    rw [e, wrapU8]
    have := (a ||| b).toNat_lt
    omega)))
theorem refK_dead {D : Dk} {i : Int} {b : Bool} (hd : D.dead = true) : D.refK i b = 5 := by unfold Dk.refK; rw [hd]; rfl
theorem dgone_ok {i : Int} {x : UInt8} {l : List DA} {v : Value} {w : World} (hgl : Glob w) (hl : SlT w encA v l) :
    Gives Tryd.prog 7 #[v, .int .u8 x.toNat, .int .i64 i] w fun u w' => u = .bool true ∧ Kept [] w w' := by
  refine C_stavelaw6_DiskGone ?_
  unfold S_stavelaw6_DiskGone
  obtain ⟨la, lc, rfl, hlc, hlr⟩ := hl
  have hl : SlT w encA (.slice la l.length lc) l := ⟨la, lc, rfl, hlc, hlr⟩
  refine newD (by omega) (by omega) fun p w1 h1 _ => ?_
  simp only [xP_ex0, xP_ex1]
  refine madeT fun _ => ?_
  simp only [List.getD_cons_zero, xIf_false]
  refine xLoop_of (fun ls w' => ∃ (i : Nat) (D : Dk), ls = [.int .i64 i] ∧ i ≤ l.length ∧ i ≤ 12 ∧ DX w w' p D [] ∧ D.dead = false ∧ D.sec.length = 4)
    (fun ls _ => match ls with | [.int _ i] => 12 - i.toNat | _ => 0) ⟨0, Dk.new 4, rfl, by omega, by omega, h1, rfl, by simp [Dk.new]⟩ ?_
  rintro _ _ w2 ⟨j, D, rfl, hj, hj12, h2, hd, hsl⟩
  refine askT fun _ => ?_
  simp only [List.getD_cons_zero, xIf_dec]
  refine ⟨fun hgo => ?_, fun hstop => ?_⟩
  · have hil := hgo.1
    refine xJoin_of (fun ls w' => ∃ D, DX w w' p D [] ∧ D.dead = false ∧ D.sec.length = 4) ?_ ?_
    · have hdr := kept_drew [] w2
      have h2d := h2.next hdr
      refine rowDA.fldA hl h2d.k0 hil (show fieldB Tryd.prog 44 1 1 = true by kernel_rfl) ONE_3 (u := .int .i64 (l[j]).i) rfl fun A1 _ => ?_
      refine rowDA.fldA hl h2d.k0 hil (show fieldB Tryd.prog 44 3 3 = true by kernel_rfl) ONE_5 (u := .int .u8 (l[j]).x.toNat) rfl fun A2 hA2 => ?_
      refine (xP_orB (b := 1)).2 ?_
      refine withinN (by omega) (by omega) (by omega) fun k _ _ hk5 => ?_
      refine (still1 ONE_5 (hA2 _ h2d.k0)).2 ?_
      refine sectorS fun sv w3 hsv hk3 _ => ?_
      refine writeG (h2d.next hk3) hsv (all_len _) hd (by omega) fun w4 M4 h4 _ _ => ?_
      refine rowDA.fldA hl h4.k0 hil (show fieldB Tryd.prog 44 0 0 = true by kernel_rfl) ONE_3 (u := .int .i64 (l[j]).kind) rfl fun A0 _ => ?_
      simp only [xR_eql, xIf_dec]
      refine ⟨fun _ => ?_, fun _ => ⟨_, h4, hd, hsl⟩⟩
      refine flushG h4 hd fun w5 M5 h5 _ _ => ?_
      exact ⟨_, h5, hd, by unfold Dk.flush; rw [drain_len]; exact hsl⟩
    rintro _ _ w3 ⟨D', h3, hd3, hsl3⟩
    try simp only [xP_nil, xP_pick, xP_func, xP_not, xP_add, xP_sub, xP_mul, xP_lss, xP_leq, xP_gtr, xP_geq, xP_max2, xP_min2, xR_eql, xR_neq, Nat.zero_add, Nat.add_zero, Nat.reduceAdd, List.getD_cons_zero, List.getD_cons_succ, xIf_true, xIf_false, FA_44_0, FA_44_1, FA_44_2, FA_44_3, FA_44_4, FA_44_5, FA_63_0, FA_63_1, FA_63_2, FA_63_3, FA_71_0, FA_71_1, FA_71_2, FA_71_3, FA_81_2, LEN_28, LEN_40, LEN_46, LEN_59, LEN_106]
    rw [wrap64 (by omega) (by omega)]
    exact ⟨⟨j + 1, D', rfl, by omega, by omega, h3, hd3, hsl3⟩, by omega⟩
  refine dieD h2 fun _ w3 _ h3 _ _ => ?_
  have hd3 : (D.blank true).dead = true := rfl
  have hsl3 : (D.blank true).sec.length = 4 := by simp [Dk.blank, hsl]
  have hws3 : (D.blank true).ws = [] := by
    unfold Dk.ws
    rw [List.filter_eq_nil_iff]
    intro i _
    show ¬ ((none : Option (List UInt8)).isSome = true)
    simp
  generalize D.blank true = E at *
  refine withinN (by omega) (by omega) (by omega) fun n _ _ hn => ?_
  refine readD h3 fun c w4 X4 h4 _ _ _ => ?_
  rw [refK_dead hd3]
  simp only [xP_ex0, xP_ex1]
  refine xJoin_of (fun ls w' => ls = [.bool false] ∧ DX w w' p E X4) ?_ ?_
  · refine deadD h4 ?_
    rw [hd3]
    simp only [xP_not, Bool.not_true, xIf_false]
    refine kindD (hgl.kept0 h4.k0) fun w5 hk5 => ?_
    have h5 := h4.next hk5
    simp only [xR_neq, ne_eq, not_true_eq_false, decide_false, xIf_false]
    refine sectorS fun sv w6 hsv hk6 _ => ?_
    refine writeD (h5.next hk6) hsv fun w7 _ h7 _ _ => ?_
    rw [refK_dead hd3] at h7 ⊢
    have h7 : DX w w7 p E X4 := by simpa using h7
    refine kindD (hgl.kept0 h7.k0) fun w8 hk8 => ?_
    simp only [xR_neq, ne_eq, not_true_eq_false, decide_false, xIf_false]
    refine flushD (h7.next hk8) fun w9 _ h9 _ _ => ?_
    rw [hd3, if_pos rfl] at h9
    rw [refK_dead hd3]
    refine kindD (hgl.kept0 h9.k0) fun w10 hk10 => ?_
    simp only [xR_neq, ne_eq, not_true_eq_false, decide_false, xIf_false]
    refine rotD (h9.next hk10) fun w11 _ h11 _ _ => ?_
    rw [rotBad_of (.inr (.inr (.inr (.inr (.inr hd3)))))] at h11 ⊢
    have h11 : DX w w11 p E X4 := h11
    simp only [Bool.not_true, xIf_false]
    refine waitsD h11 fun uv w12 huv hk12 _ => ?_
    rw [hws3] at huv
    obtain ⟨ua, uc, rfl, _, _⟩ := huv
    simp only [xP_nil, xP_pick, xP_func, xP_not, xP_add, xP_sub, xP_mul, xP_lss, xP_leq, xP_gtr, xP_geq, xP_max2, xP_min2, xR_eql, xR_neq, Nat.zero_add, Nat.add_zero, Nat.reduceAdd, List.getD_cons_zero, List.getD_cons_succ, xIf_true, xIf_false, FA_44_0, FA_44_1, FA_44_2, FA_44_3, FA_44_4, FA_44_5, FA_63_0, FA_63_1, FA_63_2, FA_63_3, FA_71_0, FA_71_1, FA_71_2, FA_71_3, FA_81_2, LEN_28, LEN_40, LEN_46, LEN_59, LEN_106]
    exact ⟨rfl, h11.next hk12⟩
  rintro _ _ w5 ⟨rfl, h5⟩
  simp only [List.getD_cons_zero, xIf_false]
  refine crashD h5 fun _ w6 _ h6 _ _ => ?_
  have hsl6 : (E.crash 18446744073709551615).sec.length = 4 := by unfold Dk.crash; rw [drain_len, hsl3]
  generalize E.crash 18446744073709551615 = G at *
  refine replaceD h6 fun _ w7 _ h7 _ _ => ?_
  have hrd7 : Rd (G.blank false) 4 (List.replicate 4 0) := by
    have e : G.blank false = Dk.new 4 := by unfold Dk.blank Dk.new; rw [hsl6]
    rw [e]
    exact (new_read 4).1
  have hd7 : (G.blank false).dead = false := rfl
  have hsl7 : (G.blank false).sec.length = 4 := by simp [Dk.blank, hsl6]
  generalize G.blank false = D2 at *
  refine xLoop_of (fun ls w' => ∃ (k : Nat) (X : List Nat), ls = [.int .i64 k] ∧ k ≤ 4 ∧ DX w w' p D2 X) (fun ls _ => match ls with | [.int _ k] => 4 - k.toNat | _ => 0) ⟨0, _, rfl, by omega, h7⟩ ?_
  rintro _ _ w8 ⟨k, X, rfl, hk, h8⟩
  simp only [xP_nil, xP_pick, xP_func, xP_not, xP_add, xP_sub, xP_mul, xP_lss, xP_leq, xP_gtr, xP_geq, xP_max2, xP_min2, xR_eql, xR_neq, Nat.zero_add, Nat.add_zero, Nat.reduceAdd, List.getD_cons_zero, List.getD_cons_succ, xIf_true, xIf_false, FA_44_0, FA_44_1, FA_44_2, FA_44_3, FA_44_4, FA_44_5, FA_63_0, FA_63_1, FA_63_2, FA_63_3, FA_71_0, FA_71_1, FA_71_2, FA_71_3, FA_81_2, LEN_28, LEN_40, LEN_46, LEN_59, LEN_106, xIf_dec]
  refine ⟨fun hlt => ?_, fun hge => ?_⟩
  · have hk4 : k < 4 := by omega
    refine readG h8 hd7 (by omega) fun b w9 X9 h9 hk9 _ hb9 => ?_
    have e0 : (List.replicate 4 (0 : UInt8)).getD k 0 = 0 := by rw [List.getD_eq_getElem?_getD, List.getElem?_replicate, if_pos hk4]; rfl
    rw [hrd7 k hk4, e0] at hb9
    simp only [xP_ex0, xP_ex1]
    refine xJoin_of (fun ls w' => ls = [.bool false] ∧ DX w w' p D2 X9) ?_ ?_
    · refine (xR_neqN IFE).2 ?_
      simp only [xIf_false]
      refine sectorS (x := 0) fun sv w10 hsv hk10 _ => ?_
      refine sameBS (hb9.kept0 hk10).1 hsv (by rw [all_len]; omega) fun w11 hk11 => ?_
      simp only [decide_true, xP_not, Bool.not_true]
      exact ⟨trivial, (h9.next hk10).next hk11⟩
    rintro _ _ w10 ⟨rfl, h10⟩
    simp only [List.getD_cons_zero, xIf_false]
    rw [wrap64 (by omega) (by omega)]
    exact ⟨⟨k + 1, X9, rfl, by omega, h10⟩, by omega⟩
  · refine deadD h8 ?_
    rw [hd7]
    simp only [xP_not, Bool.not_false, xIf_true]
    refine sectorS fun sv w9 hsv hk9 _ => ?_
    refine writeG (h8.next hk9) hsv (all_len _) hd7 (by omega) fun w10 M10 h10 _ _ => ?_
    refine (xR_eqlN IFE).2 ?_
    simp only [xIf_true]
    refine flushG h10 hd7 fun w11 M11 h11 _ _ => ?_
    refine (xR_eqlN IFE).2 ?_
    simp only [xIf_true]
    exact dRunsG hgl h11.k0
end Go.Proofs.YthmjjdfjegjfeaaDoor
