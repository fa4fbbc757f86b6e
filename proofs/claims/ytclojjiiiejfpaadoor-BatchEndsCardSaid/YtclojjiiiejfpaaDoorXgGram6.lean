import Derived.Test.YtclojjiiiejfpaaDoorXgGram5
namespace Go.Proofs.YtclojjiiiejfpaaDoor
set_option linter.unusedSimpArgs false
set_option linter.unusedVariables false
set_option maxRecDepth 100000
attribute [local irreducible] Go.X.xE
open Go Go.X

/-- What a reader of the cursor answers. -/
def CurPost {α : Type} (val : α → Value) (zero : Value) (r : Except Int (α × List UInt8)) (c : Nat) (bv : Value) (b : List UInt8) (w : World) (u : Value) (w' : World) : Prop := Kept [c] w w' ∧ match r with
  | .ok (x, rest) => u = val x ∧ ∃ at', rest = b.drop at' ∧ Cur w' c bv b at' 0
  | .error e => u = zero ∧ e ≠ 0 ∧ ∃ at', Cur w' c bv b at' e
theorem num_cur {c : Nat} {bv : Value} {b : List UInt8} {at_ size : Nat} {lo hi : Int} {w w' : World} {u : Value} (h : NumPost c bv b at_ size lo hi w u w') : CurPost (Value.int .i64) (.int .i64 0) (pNum size lo hi (b.drop at_)) c bv b w u w' := by
  obtain ⟨hk, h⟩ := h
  refine ⟨hk, ?_⟩
  cases hp : pNum size lo hi (b.drop at_) with
  | error e =>
    rw [hp] at h
    exact ⟨h.1, h.2.1, at_, h.2.2⟩
  | ok x =>
    obtain ⟨n, r⟩ := x
    rw [hp] at h
    have hr : r = b.drop (at_ + size) := by
      unfold pNum at hp
      split at hp
      · cases hp
      · split at hp
        · cases hp
        · cases hp; rw [List.drop_drop]
    exact ⟨h.1, _, hr, h.2.2⟩
theorem pNum_ok {size : Nat} {lo hi n : Int} {r r' : List UInt8} (h : pNum size lo hi r = .ok (n, r')) : n = (leNat (r.take size) : Nat) ∧ size ≤ r.length ∧ lo ≤ n ∧ n ≤ hi ∧ r' = r.drop size := by
  unfold pNum at h
  split at h
  · cases h
  · split at h
    · cases h
    · cases h; exact ⟨rfl, by omega, by omega, by omega, rfl⟩
theorem leNat2 (l : List UInt8) : leNat (l.take 2) < 65536 := by
  have h := leNat_lt (l.take 2)
  have : (l.take 2).length ≤ 2 := by rw [List.length_take]; omega
  exact Nat.lt_of_lt_of_le h (Nat.le_trans (Nat.pow_le_pow_right (by omega) this) (by omega))

theorem textBad_ok {c : Nat} {bv : Value} {b : List UInt8} {at_ : Nat} {bad lo hi : Int} {w : World} (h : Cur w c bv b at_ bad) (hb : bad ≠ 0) :
    Gives Tryd.prog 66 #[.pointer (some ⟨c, 0, none⟩), .int .i64 lo, .int .i64 hi] w fun u w' => u = .string strEmpty ∧ Kept [c] w w' ∧ Cur w' c bv b at_ bad := by
  refine C_gram_cursor_text ?_
  unfold S_gram_cursor_text
  refine xE_call CF_65 (numBad_ok h hb) ?_
  rintro _ _ ⟨rfl, rfl⟩
  have h1 := h.kept keptd
  obtain ⟨L0, L1, L2⟩ := ldC h1
  refine xJoin_one (xJoin_one ?_)
  simp only [xP_nil, xP_pick, xP_func, xP_not, xP_add, xP_sub, xP_mul, xP_lss, xP_leq, xP_gtr, xP_geq, xP_max2, xP_min2, xR_eql, xR_neq, Nat.zero_add, Nat.add_zero, Nat.reduceAdd, List.getD_cons_zero, List.getD_cons_succ, xIf_true, xIf_false, FA_23_0, FA_23_1, FA_23_2, FA_23_3, FA_23_4, FA_32_0, FA_32_1, FA_32_2, FA_63_0, FA_63_1, FA_63_2, FA_63_3, FA_80_0, FA_80_1, FA_80_2, FA_85_0, FA_85_1, FA_85_2, LEN_24, LEN_25, LEN_30, LEN_33, LEN_58, LEN_82, LEN_134, L2, hb, decide_false, decide_true, ne_eq, not_false_eq_true]
  exact fun _ _ => ⟨rfl, keptd.mono (by simp), h1⟩
theorem text_ok {c : Nat} {bv : Value} {b : List UInt8} {at_ : Nat} {lo hi : Int} {w : World} (h : Cur w c bv b at_ 0) (hlo : 0 ≤ lo) (hlh : lo ≤ hi) (hhi : hi ≤ 9223372036854775807) :
    Gives Tryd.prog 66 #[.pointer (some ⟨c, 0, none⟩), .int .i64 lo, .int .i64 hi] w fun u w' => CurPost Value.string (.string strEmpty) (pText lo hi (b.drop at_)) c bv b w u w' := by
  refine C_gram_cursor_text ?_
  unfold S_gram_cursor_text
  refine xE_call CF_65 ((num_ok (size := 2) h (by omega) hlo hlh hhi).mono fun _ _ => num_cur) ?_
  rintro u w1 ⟨hk1, hp⟩
  unfold pText
  cases hn : pNum 2 lo hi (b.drop at_) with
  | error e =>
    rw [hn] at hp
    obtain ⟨rfl, he, at', h1⟩ := hp
    have h1' := h1.kept keptd
    obtain ⟨L0, L1, L2⟩ := ldC h1'
    refine xJoin_one (xJoin_one ?_)
    simp only [xP_nil, xP_pick, xP_func, xP_not, xP_add, xP_sub, xP_mul, xP_lss, xP_leq, xP_gtr, xP_geq, xP_max2, xP_min2, xR_eql, xR_neq, Nat.zero_add, Nat.add_zero, Nat.reduceAdd, List.getD_cons_zero, List.getD_cons_succ, xIf_true, xIf_false, FA_23_0, FA_23_1, FA_23_2, FA_23_3, FA_23_4, FA_32_0, FA_32_1, FA_32_2, FA_63_0, FA_63_1, FA_63_2, FA_63_3, FA_80_0, FA_80_1, FA_80_2, FA_85_0, FA_85_1, FA_85_2, LEN_24, LEN_25, LEN_30, LEN_33, LEN_58, LEN_82, LEN_134, L2, he, decide_false, decide_true, ne_eq, not_false_eq_true]
    exact fun _ _ => ⟨hk1.drew, rfl, he, at', h1'⟩
  | ok x =>
    obtain ⟨n, r⟩ := x
    rw [hn] at hp
    obtain ⟨hnn, -, -, -, -⟩ := pNum_ok hn
    have h64 := leNat2 (b.drop at_)
    obtain ⟨rfl, at', rfl, h1⟩ := hp
    obtain ⟨m, rfl⟩ := Int.eq_ofNat_of_zero_le (show 0 ≤ n by omega)
    have hm : m < 65536 := by omega
    clear hnn h64 hn
    have h1' := h1.kept keptd
    obtain ⟨L0, L1, L2⟩ := ldC h1'
    have hle := h1.le
    have hsm := h1.small
    obtain ⟨ba, bc, rfl, hbc, hbr⟩ := h1.row
    have hk2 : Kept [c] w w1.drew := hk1.drew
    generalize w1.drew = w2 at *
    refine xJoin_one (xJoin_one ?_)
    simp only [xP_nil, xP_pick, xP_func, xP_not, xP_add, xP_sub, xP_mul, xP_lss, xP_leq, xP_gtr, xP_geq, xP_max2, xP_min2, xR_eql, xR_neq, Nat.zero_add, Nat.add_zero, Nat.reduceAdd, List.getD_cons_zero, List.getD_cons_succ, xIf_true, xIf_false, FA_23_0, FA_23_1, FA_23_2, FA_23_3, FA_23_4, FA_32_0, FA_32_1, FA_32_2, FA_63_0, FA_63_1, FA_63_2, FA_63_3, FA_80_0, FA_80_1, FA_80_2, FA_85_0, FA_85_1, FA_85_2, LEN_24, LEN_25, LEN_30, LEN_33, LEN_58, LEN_82, LEN_134, L0, L1, L2, decide_true]
    rw [wrap64 (by omega) (by omega)]
    intro _
    simp only [xP_nil, xP_pick, xP_func, xP_not, xP_add, xP_sub, xP_mul, xP_lss, xP_leq, xP_gtr, xP_geq, xP_max2, xP_min2, xR_eql, xR_neq, Nat.zero_add, Nat.add_zero, Nat.reduceAdd, List.getD_cons_zero, List.getD_cons_succ, xIf_true, xIf_false, FA_23_0, FA_23_1, FA_23_2, FA_23_3, FA_23_4, FA_32_0, FA_32_1, FA_32_2, FA_63_0, FA_63_1, FA_63_2, FA_63_3, FA_80_0, FA_80_1, FA_80_2, FA_85_0, FA_85_1, FA_85_2, LEN_24, LEN_25, LEN_30, LEN_33, LEN_58, LEN_82, LEN_134, xIf_dec, List.length_drop, Int.toNat_natCast]
    refine ⟨fun hshort => ?_, fun hlong => ?_⟩
    · rw [if_pos (by omega)]
      refine xE_store1 SZ_39 h1'.blk (by simp) rfl fun w3 hb3 hk3 hz3 => ?_
      have h3 := h1'.move (at' := at') (bad' := 3) (by simpa using hb3) hk3 hle
      obtain ⟨M0, M1, M2⟩ := ldC h3
      intro _
      simp only [xP_nil, xP_pick, xP_func, xP_not, xP_add, xP_sub, xP_mul, xP_lss, xP_leq, xP_gtr, xP_geq, xP_max2, xP_min2, xR_eql, xR_neq, Nat.zero_add, Nat.add_zero, Nat.reduceAdd, List.getD_cons_zero, List.getD_cons_succ, xIf_true, xIf_false, FA_23_0, FA_23_1, FA_23_2, FA_23_3, FA_23_4, FA_32_0, FA_32_1, FA_32_2, FA_63_0, FA_63_1, FA_63_2, FA_63_3, FA_80_0, FA_80_1, FA_80_2, FA_85_0, FA_85_1, FA_85_2, LEN_24, LEN_25, LEN_30, LEN_33, LEN_58, LEN_82, LEN_134, M2, show decide ((3 : Int) ≠ 0) = true from rfl]
      exact ⟨hk2.then hk3 (by simp), rfl, by omega, at', h3⟩
    · rw [if_neg (by omega)]
      intro _
      refine ⟨fun h => absurd rfl h, fun _ => ?_⟩
      rw [wrap64 (by omega) (by omega)]
      refine xE_store1 SZ_3 h1'.blk (by simp) rfl fun w3 hb3 hk3 hz3 => ?_
      have h3 := h1'.move (at' := at' + m) (bad' := 0) (by simpa using hb3) hk3 (by omega)
      have h4 := h3.kept keptd
      obtain ⟨M0, M1, M2⟩ := ldC h4
      have hk4 : Kept [c] w w3.drew := (hk2.then hk3 (by simp)).drew
      generalize w3.drew = w4 at *
      simp only [xP_nil, xP_pick, xP_func, xP_not, xP_add, xP_sub, xP_mul, xP_lss, xP_leq, xP_gtr, xP_geq, xP_max2, xP_min2, xR_eql, xR_neq, Nat.zero_add, Nat.add_zero, Nat.reduceAdd, List.getD_cons_zero, List.getD_cons_succ, xIf_true, xIf_false, FA_23_0, FA_23_1, FA_23_2, FA_23_3, FA_23_4, FA_32_0, FA_32_1, FA_32_2, FA_63_0, FA_63_1, FA_63_2, FA_63_3, FA_80_0, FA_80_1, FA_80_2, FA_85_0, FA_85_1, FA_85_2, LEN_24, LEN_25, LEN_30, LEN_33, LEN_58, LEN_82, LEN_134, M0, M1]
      rw [wrap64 (by omega) (by omega)]
      have hsub := SlT.sub (i := at') (j := at' + m) encB_len h4.row (by omega) (by omega)
      refine (xP_slice SL_25 SZ_5 (by omega) (by omega) (by omega)).2 ?_
      have e0 : (((at' + m : Nat) : Int) - (m : Nat)).toNat = at' := by omega
      have e1 : ((at' + m : Nat) : Int).toNat - at' = m := by omega
      have e2 : at' + m - at' = m := by omega
      rw [e0, e1]
      rw [e2] at hsub
      refine (xE_toStr BYT STR hsub).2 ?_
      exact ⟨hk4, rfl, at' + m, by rw [List.drop_drop], h4⟩
end Go.Proofs.YtclojjiiiejfpaaDoor
