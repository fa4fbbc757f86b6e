import Derived.Test.YtclojjiiiejfpaaDoorXgGram4
import Derived.Test.YtclojjiiiejfpaaDoorXB
namespace Go.Proofs.YtclojjiiiejfpaaDoor
set_option linter.unusedSimpArgs false
set_option linter.unusedVariables false
set_option maxRecDepth 100000
attribute [local irreducible] Go.X.xE
open Go Go.X

/-! ## The cursor -/
structure Cur (w : World) (c : Nat) (bv : Value) (b : List UInt8) (at_ : Nat) (bad : Int) : Prop where
  blk : Blk w c 80 [bv, .int .i64 at_, .int .i64 bad]
  row : SlT w encB bv b
  le : at_ ≤ b.length
  small : b.length ≤ 4611686018427387904
  off : b = [] ∨ ∀ bb o n cc, bv = .slice (some ⟨bb, o, none⟩) n cc → bb ≠ c
theorem Cur.kept {w w' : World} {c : Nat} {bv : Value} {b : List UInt8} {at_ : Nat} {bad : Int} (h : Cur w c bv b at_ bad) (hk : Kept [] w w') : Cur w' c bv b at_ bad :=
  ⟨h.blk.kept hk (by simp), h.row.kept0 hk, h.le, h.small, h.off⟩
theorem Cur.lt {w : World} {c : Nat} {bv : Value} {b : List UInt8} {at_ : Nat} {bad : Int} (h : Cur w c bv b at_ bad) : c < w.heap.size := h.blk.lt
theorem Cur.move {w w' : World} {c : Nat} {bv : Value} {b : List UInt8} {at_ at' : Nat} {bad bad' : Int} (h : Cur w c bv b at_ bad) (hb : Blk w' c 80 [bv, .int .i64 at', .int .i64 bad']) (hk : Kept [c] w w') (hle : at' ≤ b.length) : Cur w' c bv b at' bad' :=
  ⟨hb, h.off.elim (fun hb => by
    subst hb
    obtain ⟨a, c', hv, hc, _⟩ := h.row
    exact ⟨a, c', hv, hc, .inl rfl⟩) (fun ho => h.row.kept hk (fun bb o n cc he => by simp; exact ho bb o n cc he)), hle, h.small, h.off⟩
theorem ldC {w : World} {c : Nat} {bv : Value} {b : List UInt8} {at_ : Nat} {bad : Int} (h : Cur w c bv b at_ bad) :
    (∀ K, xR Tryd.prog (sLoad 25 (.pointer (some ⟨c, 0, none⟩))) w K ↔ K bv) ∧ (∀ K, xR Tryd.prog (sLoad 3 (.pointer (some ⟨c, 1, none⟩))) w K ↔ K (.int .i64 at_)) ∧ (∀ K, xR Tryd.prog (sLoad 39 (.pointer (some ⟨c, 2, none⟩))) w K ↔ K (.int .i64 bad)) :=
  ⟨fun _ => ld1 ONE_25 (h.blk.cell (o := 0)), fun _ => ld1 ONE_3 (h.blk.cell (o := 1)), fun _ => ld1 ONE_39 (h.blk.cell (o := 2))⟩
theorem keptd {w : World} : Kept [] w w.drew := (Kept.refl _ _).drew
theorem rowB : RowB Tryd.prog 25 5 1 encB (fun b : UInt8 => Value.int .u8 b.toNat) := RowB.one SL_25 SZ_5 ONE_5

theorem numBad_ok {c : Nat} {bv : Value} {b : List UInt8} {at_ : Nat} {bad size lo hi : Int} {w : World} (h : Cur w c bv b at_ bad) (hb : bad ≠ 0) :
    Gives Tryd.prog 65 #[.pointer (some ⟨c, 0, none⟩), .int .i64 size, .int .i64 lo, .int .i64 hi] w fun u w' => u = .int .i64 0 ∧ w = w' := by
  refine C_gram_cursor_num ?_
  unfold S_gram_cursor_num
  obtain ⟨L0, L1, L2⟩ := ldC h
  simp only [xP_nil, xP_pick, xP_func, xP_not, xP_add, xP_sub, xP_mul, xP_lss, xP_leq, xP_gtr, xP_geq, xP_max2, xP_min2, xR_eql, xR_neq, Nat.zero_add, Nat.add_zero, Nat.reduceAdd, List.getD_cons_zero, List.getD_cons_succ, xIf_true, xIf_false, FA_23_0, FA_23_1, FA_23_2, FA_23_3, FA_23_4, FA_32_0, FA_32_1, FA_32_2, FA_63_0, FA_63_1, FA_63_2, FA_63_3, FA_80_0, FA_80_1, FA_80_2, FA_85_0, FA_85_1, FA_85_2, LEN_24, LEN_25, LEN_30, LEN_33, LEN_58, LEN_82, LEN_134, L2, hb, ne_eq, not_false_eq_true, decide_true]
  exact ⟨rfl, rfl⟩
def NumPost (c : Nat) (bv : Value) (b : List UInt8) (at_ size : Nat) (lo hi : Int) (w : World) (u : Value) (w' : World) : Prop := Kept [c] w w' ∧ match pNum size lo hi (b.drop at_) with
  | .ok (n, _) => u = .int .i64 n ∧ at_ + size ≤ b.length ∧ Cur w' c bv b (at_ + size) 0
  | .error e => u = .int .i64 0 ∧ e ≠ 0 ∧ Cur w' c bv b at_ e
theorem num_ok {c : Nat} {bv : Value} {b : List UInt8} {at_ size : Nat} {lo hi : Int} {w : World} (h : Cur w c bv b at_ 0) (hs : size ≤ 8) (hlo : 0 ≤ lo) (hlh : lo ≤ hi) (hhi : hi ≤ 9223372036854775807) :
    Gives Tryd.prog 65 #[.pointer (some ⟨c, 0, none⟩), .int .i64 size, .int .i64 lo, .int .i64 hi] w fun u w' => NumPost c bv b at_ size lo hi w u w' := by
  refine C_gram_cursor_num ?_
  unfold S_gram_cursor_num
  have h1 := h.kept keptd
  have h2 := h1.kept keptd
  obtain ⟨L0, L1, L2⟩ := ldC h
  obtain ⟨M0, M1, M2⟩ := ldC h1
  obtain ⟨N0, N1, N2⟩ := ldC h2
  have hk2 : Kept [] w w.drew.drew := keptd.then keptd (by simp)
  generalize w.drew.drew = w2 at *
  obtain ⟨ba, bc, rfl, hbc, hbr⟩ := h.row
  have hle := h.le
  have hsm := h.small
  have hk1 : Kept [] w w.drew := keptd
  generalize w.drew = w1 at *
  simp only [xP_nil, xP_pick, xP_func, xP_not, xP_add, xP_sub, xP_mul, xP_lss, xP_leq, xP_gtr, xP_geq, xP_max2, xP_min2, xR_eql, xR_neq, Nat.zero_add, Nat.add_zero, Nat.reduceAdd, List.getD_cons_zero, List.getD_cons_succ, xIf_true, xIf_false, FA_23_0, FA_23_1, FA_23_2, FA_23_3, FA_23_4, FA_32_0, FA_32_1, FA_32_2, FA_63_0, FA_63_1, FA_63_2, FA_63_3, FA_80_0, FA_80_1, FA_80_2, FA_85_0, FA_85_1, FA_85_2, LEN_24, LEN_25, LEN_30, LEN_33, LEN_58, LEN_82, LEN_134, L2, M0, M1, N0, N1, ne_eq, not_true_eq_false, decide_false, xIf_dec]
  rw [wrap64 (by omega) (by omega)]
  unfold NumPost pNum
  rw [List.length_drop]
  refine ⟨fun hshort => ?_, fun hlong => ?_⟩
  · rw [if_pos (by omega)]
    refine xE_store1 SZ_39 h1.blk (by simp) rfl fun w3 hb3 hk3 hz3 => ?_
    have hk03 : Kept [c] w w3 := (hk1.mono (by simp)).then hk3 (by simp)
    exact ⟨hk03, rfl, by omega, h1.move hb3 hk3 hle⟩
  have hfit : at_ + size ≤ b.length := by omega
  rw [if_neg (by omega), wrap64 (by omega) (by omega)]
  have hsub := SlT.sub (i := at_) (j := at_ + size) encB_len h2.row (by omega) hfit
  refine (xP_slice SL_25 SZ_5 (by omega) (by omega) (by omega)).2 ?_
  have e1 : ((at_ : Int) + size).toNat - (at_ : Int).toNat = size := by omega
  have e2 : at_ + size - at_ = size := by omega
  rw [e1, Int.toNat_natCast]
  rw [e2] at hsub
  obtain ⟨D, hD⟩ : ∃ D, (b.drop at_).take size = D := ⟨_, rfl⟩
  have hDl : D.length = size := by rw [← hD, List.length_take, List.length_drop]; omega
  rw [hD] at hsub ⊢
  simp only [xP_nil, xP_pick, xP_func, xP_not, xP_add, xP_sub, xP_mul, xP_lss, xP_leq, xP_gtr, xP_geq, xP_max2, xP_min2, xR_eql, xR_neq, Nat.zero_add, Nat.add_zero, Nat.reduceAdd, List.getD_cons_zero, List.getD_cons_succ, xIf_true, xIf_false, FA_23_0, FA_23_1, FA_23_2, FA_23_3, FA_23_4, FA_32_0, FA_32_1, FA_32_2, FA_63_0, FA_63_1, FA_63_2, FA_63_3, FA_80_0, FA_80_1, FA_80_2, FA_85_0, FA_85_1, FA_85_2, LEN_24, LEN_25, LEN_30, LEN_33, LEN_58, LEN_82, LEN_134]
  generalize (if bc = at_ then ba else ba.map (·.add (at_ * 1))) = da at *
  refine xLoop_of (fun vs w' => ∃ i : Nat, vs = [.int .u64 (leNat (D.take i)), .int .i64 i] ∧ i ≤ size ∧ Kept [] w2 w') (fun vs _ => match vs with | [_, .int _ i] => size - i.toNat | _ => 0) ⟨0, rfl, by omega, Kept.refl _ _⟩ ?_
  rintro _ _ w3 ⟨i, rfl, hile, hk3⟩
  have h3 := h2.kept hk3
  simp only [xP_nil, xP_pick, xP_func, xP_not, xP_add, xP_sub, xP_mul, xP_lss, xP_leq, xP_gtr, xP_geq, xP_max2, xP_min2, xR_eql, xR_neq, Nat.zero_add, Nat.add_zero, Nat.reduceAdd, List.getD_cons_zero, List.getD_cons_succ, xIf_true, xIf_false, FA_23_0, FA_23_1, FA_23_2, FA_23_3, FA_23_4, FA_32_0, FA_32_1, FA_32_2, FA_63_0, FA_63_1, FA_63_2, FA_63_3, FA_80_0, FA_80_1, FA_80_2, FA_85_0, FA_85_1, FA_85_2, LEN_24, LEN_25, LEN_30, LEN_33, LEN_58, LEN_82, LEN_134, xIf_dec]
  refine ⟨fun hlt => ?_, fun hge => ?_⟩
  · have hlt' : i < D.length := by omega
    refine (rowB.get hsub hk3 hlt').2 ?_
    have hx := (D[i]).toNat_lt
    have h0 : (0 : Int) ≤ 8 * i := by omega
    rw [wrap64 (by omega) (by omega)]
    simp only [xP_conv INT_5 INT_92, xP_conv INT_3 INT_90, wrapU64 h0 (show (8 * (i : Int)) ≤ 18446744073709551615 by omega)]
    rw [wrapU64 (by omega) (by omega)]
    refine (xP_shl h0).2 ?_
    have e3 : min (8 * (i : Int)).toNat IntKind.u64.bits = 8 * i := by
      rw [Nat.min_eq_left]
      · omega
      · show _ ≤ 64
        omega
    have hp : 2 ^ (8 * i) * 256 ≤ 2 ^ 64 := by
      rw [show 256 = 2 ^ 8 from rfl, ← Nat.pow_add]
      exact Nat.pow_le_pow_right (by omega) (by omega)
    have hxp : D[i].toNat * 2 ^ (8 * i) ≤ 255 * 2 ^ (8 * i) := Nat.mul_le_mul_right _ (by omega)
    have hle8 : leNat (D.take i) < 2 ^ (8 * i) := by
      have := leNat_lt (D.take i)
      rw [List.length_take, Nat.min_eq_left (by omega), show 256 = 2 ^ 8 from rfl, ← Nat.pow_mul] at this
      exact this
    rw [e3]
    have e4 : ((D[i].toNat : Nat) : Int) * 2 ^ (8 * i) = ((D[i].toNat * 2 ^ (8 * i) : Nat) : Int) := by
      rw [Int.natCast_mul, Int.natCast_pow]; rfl
    rw [e4, wrapU64 (by omega) (by omega)]
    have hor := or_add (x := D[i].toNat) hle8
    refine (xP_orU (by rw [hor]; omega)).2 ?_
    try simp only [xP_nil, xP_pick, xP_func, xP_not, xP_add, xP_sub, xP_mul, xP_lss, xP_leq, xP_gtr, xP_geq, xP_max2, xP_min2, xR_eql, xR_neq, Nat.zero_add, Nat.add_zero, Nat.reduceAdd, List.getD_cons_zero, List.getD_cons_succ, xIf_true, xIf_false, FA_23_0, FA_23_1, FA_23_2, FA_23_3, FA_23_4, FA_32_0, FA_32_1, FA_32_2, FA_63_0, FA_63_1, FA_63_2, FA_63_3, FA_80_0, FA_80_1, FA_80_2, FA_85_0, FA_85_1, FA_85_2, LEN_24, LEN_25, LEN_30, LEN_33, LEN_58, LEN_82, LEN_134]
    rw [hor, wrap64 (by omega) (by omega)]
    refine ⟨⟨i + 1, ?_, by omega, hk3⟩, by omega⟩
    have e5 : leNat (D.take (i + 1)) = leNat (D.take i) + D[i].toNat * 2 ^ (8 * i) := by
      rw [List.take_succ_eq_append_getElem hlt', leNat_snoc, List.length_take, Nat.min_eq_left (by omega), show 256 = 2 ^ 8 from rfl, ← Nat.pow_mul]
    rw [e5]
    rfl
  · obtain rfl : i = size := by omega
    have hDt : D.take i = D := List.take_of_length_le (by omega)
    rw [hDt]
    have hlt64 : leNat D < 2 ^ 64 := by
      have := leNat_lt D
      rw [hDl, show 256 = 2 ^ 8 from rfl, ← Nat.pow_mul] at this
      exact Nat.lt_of_lt_of_le this (Nat.pow_le_pow_right (by omega) (by omega))
    obtain ⟨O0, O1, O2⟩ := ldC h3
    have hk03 : Kept [] w w3 := hk2.then hk3 (by simp)
    refine xJoin_of (fun vs w' => vs = [.bool (decide ((leNat D : Int) < lo ∨ hi < leNat D))] ∧ w3 = w') ?_ ?_
    · simp only [xP_conv INT_3 INT_92, wrapU64 hlo (show lo ≤ 18446744073709551615 by omega), wrapU64 (show 0 ≤ hi by omega) (show hi ≤ 18446744073709551615 by omega), xP_nil, xP_pick, xP_func, xP_not, xP_add, xP_sub, xP_mul, xP_lss, xP_leq, xP_gtr, xP_geq, xP_max2, xP_min2, xR_eql, xR_neq, Nat.zero_add, Nat.add_zero, Nat.reduceAdd, List.getD_cons_zero, List.getD_cons_succ, xIf_true, xIf_false, FA_23_0, FA_23_1, FA_23_2, FA_23_3, FA_23_4, FA_32_0, FA_32_1, FA_32_2, FA_63_0, FA_63_1, FA_63_2, FA_63_3, FA_80_0, FA_80_1, FA_80_2, FA_85_0, FA_85_1, FA_85_2, LEN_24, LEN_25, LEN_30, LEN_33, LEN_58, LEN_82, LEN_134, xIf_dec]
      refine ⟨fun a => ⟨by simp [a], trivial⟩, fun a => ⟨by simp [a], trivial⟩⟩
    rintro _ _ _ ⟨rfl, rfl⟩
    simp only [xP_nil, xP_pick, xP_func, xP_not, xP_add, xP_sub, xP_mul, xP_lss, xP_leq, xP_gtr, xP_geq, xP_max2, xP_min2, xR_eql, xR_neq, Nat.zero_add, Nat.add_zero, Nat.reduceAdd, List.getD_cons_zero, List.getD_cons_succ, xIf_true, xIf_false, FA_23_0, FA_23_1, FA_23_2, FA_23_3, FA_23_4, FA_32_0, FA_32_1, FA_32_2, FA_63_0, FA_63_1, FA_63_2, FA_63_3, FA_80_0, FA_80_1, FA_80_2, FA_85_0, FA_85_1, FA_85_2, LEN_24, LEN_25, LEN_30, LEN_33, LEN_58, LEN_82, LEN_134, xIf_dec]
    refine ⟨fun hbad => ?_, fun hgood => ?_⟩
    · rw [if_pos hbad]
      refine xE_store1 SZ_39 h3.blk (by simp) rfl fun w4 hb4 hk4 hz4 => ?_
      exact ⟨(hk03.mono (by simp)).then hk4 (by simp), rfl, by omega, h3.move hb4 hk4 hle⟩
    · rw [if_neg hgood]
      simp only [O1, xP_nil, xP_pick, xP_func, xP_not, xP_add, xP_sub, xP_mul, xP_lss, xP_leq, xP_gtr, xP_geq, xP_max2, xP_min2, xR_eql, xR_neq, Nat.zero_add, Nat.add_zero, Nat.reduceAdd, List.getD_cons_zero, List.getD_cons_succ, xIf_true, xIf_false, FA_23_0, FA_23_1, FA_23_2, FA_23_3, FA_23_4, FA_32_0, FA_32_1, FA_32_2, FA_63_0, FA_63_1, FA_63_2, FA_63_3, FA_80_0, FA_80_1, FA_80_2, FA_85_0, FA_85_1, FA_85_2, LEN_24, LEN_25, LEN_30, LEN_33, LEN_58, LEN_82, LEN_134]
      rw [wrap64 (by omega) (by omega)]
      refine xE_store1 SZ_3 h3.blk (by simp) rfl fun w4 hb4 hk4 hz4 => ?_
      simp only [xP_conv INT_92 INT_3]
      rw [wrap64 (by omega) (by omega)]
      refine ⟨(hk03.mono (by simp)).then hk4 (by simp), rfl, hfit, h3.move ?_ hk4 hfit⟩
      simpa using hb4
end Go.Proofs.YtclojjiiiejfpaaDoor
