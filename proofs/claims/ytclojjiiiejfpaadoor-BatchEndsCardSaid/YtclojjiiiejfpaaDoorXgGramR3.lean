import Derived.Test.YtclojjiiiejfpaaDoorXgGramR2
import Derived.Test.YtclojjiiiejfpaaDoorXGramC
import Derived.Test.YtclojjiiiejfpaaDoorXgGram8
namespace Go.Proofs.YtclojjiiiejfpaaDoor
set_option linter.unusedSimpArgs false
set_option linter.unusedVariables false
set_option maxRecDepth 100000
attribute [local irreducible] Go.X.xE
open Go Go.X Go.RowKit

/-! ## The document's own grammar: what is read -/
theorem leNat_pos {l : List UInt8} (h : l ≠ []) : leNat l = (l.head h).toNat + 256 * leNat l.tail := by
  cases l with
  | nil => exact absurd rfl h
  | cons a l => rfl
theorem dbig_ok {b : List UInt8} {v : Value} {w : World} (hv : SlT w encB v b) (hb : b.length ≤ 8) : Gives Tryd.prog 53 #[v] w fun u w' => u = .int .u64 (leNat b) ∧ w = w' := by
  refine C_staveref1_Big ?_
  unfold S_staveref1_Big
  obtain ⟨ba, bc, rfl, hbc, hbr⟩ := hv
  have hv : SlT w encB (.slice ba b.length bc) b := ⟨ba, bc, rfl, hbc, hbr⟩
  try simp only [xP_nil, xP_pick, xP_func, xP_not, xP_add, xP_sub, xP_mul, xP_lss, xP_leq, xP_gtr, xP_geq, xP_max2, xP_min2, xR_eql, xR_neq, Nat.zero_add, Nat.add_zero, Nat.reduceAdd, List.getD_cons_zero, List.getD_cons_succ, xIf_true, xIf_false, FA_23_0, FA_23_1, FA_23_2, FA_23_3, FA_23_4, FA_32_0, FA_32_1, FA_32_2, FA_63_0, FA_63_1, FA_63_2, FA_63_3, FA_80_0, FA_80_1, FA_80_2, FA_85_0, FA_85_1, FA_85_2, LEN_24, LEN_25, LEN_30, LEN_33, LEN_58, LEN_82, LEN_134]
  rw [wrap64 (by omega) (by omega)]
  refine xLoop_of (fun vs w' => ∃ i : Nat, vs = [.int .u64 (leNat (b.drop i)), .int .i64 ((i : Int) - 1)] ∧ i ≤ b.length ∧ w = w') (fun vs _ => match vs with | [_, .int _ i] => (i + 1).toNat | _ => 0) ⟨b.length, by rw [List.drop_length]; rfl, by omega, rfl⟩ ?_
  rintro _ _ _ ⟨i, rfl, hi, rfl⟩
  simp only [xP_nil, xP_pick, xP_func, xP_not, xP_add, xP_sub, xP_mul, xP_lss, xP_leq, xP_gtr, xP_geq, xP_max2, xP_min2, xR_eql, xR_neq, Nat.zero_add, Nat.add_zero, Nat.reduceAdd, List.getD_cons_zero, List.getD_cons_succ, xIf_true, xIf_false, FA_23_0, FA_23_1, FA_23_2, FA_23_3, FA_23_4, FA_32_0, FA_32_1, FA_32_2, FA_63_0, FA_63_1, FA_63_2, FA_63_3, FA_80_0, FA_80_1, FA_80_2, FA_85_0, FA_85_1, FA_85_2, LEN_24, LEN_25, LEN_30, LEN_33, LEN_58, LEN_82, LEN_134, xIf_dec]
  refine ⟨fun hge => ?_, fun hlt => ?_⟩
  · obtain ⟨j, rfl⟩ : ∃ j, i = j + 1 := ⟨i - 1, by omega⟩
    have hjl : j < b.length := by omega
    have hlt := leNat_lt (b.drop (j + 1))
    have hdl : (b.drop (j + 1)).length ≤ 7 := by rw [List.length_drop]; omega
    have hp : 256 ^ (b.drop (j + 1)).length ≤ 256 ^ 7 := Nat.pow_le_pow_right (by omega) hdl
    have hp7 : 256 ^ 7 = 72057594037927936 := rfl
    have hx := (b[j]).toNat_lt
    have ed : leNat (b.drop j) = b[j].toNat + 256 * leNat (b.drop (j + 1)) := by rw [List.drop_eq_getElem_cons hjl]; rfl
    generalize hD : leNat (b.drop (j + 1)) = D at *
    have hD72 : D < 72057594037927936 := by omega
    refine (xP_shl (by omega)).2 ?_
    have e8 : min ((8 : Int)).toNat IntKind.u64.bits = 8 := rfl
    rw [e8]
    have e1 : ((D : Int) * 2 ^ 8) = ((D * 2 ^ 8 : Nat) : Int) := by rw [Int.natCast_mul]; rfl
    rw [e1, wrapU64 (by omega) (by omega), show ((j + 1 : Nat) : Int) - 1 = (j : Nat) by omega]
    refine (rowB.get hv (Kept.refl _ _) hjl).2 ?_
    refine (xP_conv INT_5 INT_92).2 ?_
    rw [wrapU64 (by omega) (by omega)]
    have hor : (D * 2 ^ 8) ||| b[j].toNat = b[j].toNat + D * 2 ^ 8 := by
      rw [Nat.or_comm]; exact or_add (by omega)
    refine (xP_orU (by rw [hor]; omega)).2 ?_
    rw [hor, wrap64 (by omega) (by omega)]
    refine ⟨⟨j, ?_, by omega, trivial⟩, by omega⟩
    rw [ed, Nat.mul_comm 256 D]
  · obtain rfl : i = 0 := by omega
    rw [List.drop_zero]
    exact ⟨rfl, rfl⟩

def DOnePost (lo hi : Int) (b : List UInt8) (at_ : Nat) (u : Value) : Prop := match pText lo hi (b.drop at_) with
  | .error e => u = .tuple #[.string strEmpty, .int .i64 at_, .int .i64 e] ∧ e ≠ 0
  | .ok (s, r') => ∃ at' : Nat, u = .tuple #[.string s, .int .i64 at', .int .i64 0] ∧ r' = b.drop at' ∧ at' ≤ b.length
theorem done_ok {b : List UInt8} {v : Value} {at_ : Nat} {lo hi : Int} {w : World} (hv : SlT w encB v b) (hle : at_ ≤ b.length) (hbl : b.length ≤ 4611686018427387904) :
    Gives Tryd.prog 54 #[v, .int .i64 at_, .int .i64 lo, .int .i64 hi] w fun u w' => DOnePost lo hi b at_ u ∧ w = w' := by
  refine C_staveref1_one ?_
  unfold S_staveref1_one
  obtain ⟨ba, bc, rfl, hbc, hbr⟩ := hv
  have hv : SlT w encB (.slice ba b.length bc) b := ⟨ba, bc, rfl, hbc, hbr⟩
  simp only [xP_nil, xP_pick, xP_func, xP_not, xP_add, xP_sub, xP_mul, xP_lss, xP_leq, xP_gtr, xP_geq, xP_max2, xP_min2, xR_eql, xR_neq, Nat.zero_add, Nat.add_zero, Nat.reduceAdd, List.getD_cons_zero, List.getD_cons_succ, xIf_true, xIf_false, FA_23_0, FA_23_1, FA_23_2, FA_23_3, FA_23_4, FA_32_0, FA_32_1, FA_32_2, FA_63_0, FA_63_1, FA_63_2, FA_63_3, FA_80_0, FA_80_1, FA_80_2, FA_85_0, FA_85_1, FA_85_2, LEN_24, LEN_25, LEN_30, LEN_33, LEN_58, LEN_82, LEN_134, xIf_dec]
  rw [wrap64 (by omega) (by omega)]
  unfold DOnePost pText pNum
  rw [List.length_drop]
  refine ⟨fun hshort => ?_, fun hlong => ?_⟩
  · rw [if_pos (by omega)]
    exact ⟨⟨rfl, by omega⟩, rfl⟩
  rw [if_neg (by omega), wrap64 (by omega) (by omega)]
  refine (xP_slice SL_25 SZ_5 (by omega) (by omega) (by omega)).2 ?_
  have hsub := SlT.sub (i := at_) (j := at_ + 2) encB_len hv (by omega) (by omega)
  have e1 : ((at_ : Int) + 2).toNat - (at_ : Int).toNat = 2 := by omega
  have e2 : at_ + 2 - at_ = 2 := by omega
  rw [e1, Int.toNat_natCast]
  rw [e2] at hsub
  refine xE_call CF_53 (dbig_ok hsub (by rw [List.length_take]; omega)) ?_
  rintro _ _ ⟨rfl, rfl⟩
  have h64 := leNat2 (b.drop at_)
  generalize hn : leNat ((b.drop at_).take 2) = n at *
  refine (xP_conv INT_92 INT_3).2 ?_
  rw [wrap64 (by omega) (by omega)]
  refine xJoin_of (fun vs w' => vs = [.bool (decide ((n : Int) < lo ∨ hi < n))] ∧ w = w') ?_ ?_
  · simp only [xP_nil, xP_pick, xP_func, xP_not, xP_add, xP_sub, xP_mul, xP_lss, xP_leq, xP_gtr, xP_geq, xP_max2, xP_min2, xR_eql, xR_neq, Nat.zero_add, Nat.add_zero, Nat.reduceAdd, List.getD_cons_zero, List.getD_cons_succ, xIf_true, xIf_false, FA_23_0, FA_23_1, FA_23_2, FA_23_3, FA_23_4, FA_32_0, FA_32_1, FA_32_2, FA_63_0, FA_63_1, FA_63_2, FA_63_3, FA_80_0, FA_80_1, FA_80_2, FA_85_0, FA_85_1, FA_85_2, LEN_24, LEN_25, LEN_30, LEN_33, LEN_58, LEN_82, LEN_134, xIf_dec]
    exact ⟨fun a => ⟨by simp [a], trivial⟩, fun a => ⟨by simp [a], trivial⟩⟩
  rintro _ _ _ ⟨rfl, rfl⟩
  simp only [xP_nil, xP_pick, xP_func, xP_not, xP_add, xP_sub, xP_mul, xP_lss, xP_leq, xP_gtr, xP_geq, xP_max2, xP_min2, xR_eql, xR_neq, Nat.zero_add, Nat.add_zero, Nat.reduceAdd, List.getD_cons_zero, List.getD_cons_succ, xIf_true, xIf_false, FA_23_0, FA_23_1, FA_23_2, FA_23_3, FA_23_4, FA_32_0, FA_32_1, FA_32_2, FA_63_0, FA_63_1, FA_63_2, FA_63_3, FA_80_0, FA_80_1, FA_80_2, FA_85_0, FA_85_1, FA_85_2, LEN_24, LEN_25, LEN_30, LEN_33, LEN_58, LEN_82, LEN_134, xIf_dec]
  refine ⟨fun hbad => ?_, fun hgood => ?_⟩
  · rw [if_pos hbad]
    exact ⟨⟨rfl, by omega⟩, rfl⟩
  rw [if_neg hgood, wrap64 (x := (b.length : Int) - at_ - 2) (by omega) (by omega)]
  simp only [List.length_drop]
  refine ⟨fun hshort => ?_, fun hlong2 => ?_⟩
  · rw [if_pos (by omega)]
    exact ⟨⟨rfl, by omega⟩, rfl⟩
  · rw [if_neg (by omega), wrap64 (by omega) (by omega)]
    refine (xP_slice SL_25 SZ_5 (by omega) (by omega) (by omega)).2 ?_
    have hsub2 := SlT.sub (i := at_ + 2) (j := at_ + 2 + n) encB_len hv (by omega) (by omega)
    have e3 : ((at_ : Int) + 2 + n).toNat - ((at_ : Int) + 2).toNat = at_ + 2 + n - (at_ + 2) := by omega
    have e4 : ((at_ : Int) + 2).toNat = at_ + 2 := by omega
    rw [e3, e4]
    refine (xE_toStr BYT STR hsub2).2 ?_
    refine ⟨⟨at_ + 2 + n, ?_, ?_, by omega⟩, rfl⟩
    · simp only [Int.toNat_natCast, List.drop_drop]
      rw [show at_ + 2 + n - (at_ + 2) = n by omega]
      congr 2
    · simp only [Int.toNat_natCast, List.drop_drop]

def DGetPost (w : World) (fs : List GFd) (b : List UInt8) (r : Value) (w' : World) : Prop := Kept [] w w' ∧ match gramGet fs b with
  | .ok vs => ∃ o raws, r = .tuple #[o, .int .i64 0, .int .i64 0] ∧ SlT w' encV o raws ∧ IsRow w' raws vs ∧ (∀ x ∈ raws, Fr w.heap.size x.lv) ∧ (∀ x ∈ raws, x.lv.oneCell' = true)
  | .error (i, k) => r = .tuple #[.slice none 0 0, .int .i64 k, .int .i64 i] ∧ k ≠ 0

theorem dget_ok {fs : List GFd} {b : List UInt8} {v u : Value} {w : World} (hf : SlT w encF v fs) (hs : small fs) (hfl : fs.length ≤ 1000000) (hv : SlT w encB u b) (hbl : b.length ≤ 4611686018427387904) :
    Gives Tryd.prog 28 #[v, u] w fun r w' => DGetPost w fs b r w' := by
  refine C_staveref1_GetFields ?_
  unfold S_staveref1_GetFields
  refine xE_call CF_49 (dwrong_ok hf hfl) ?_
  rintro _ w1 ⟨rfl, hk1⟩
  unfold DGetPost gramGet firstWrong
  by_cases hw : fs.findIdx (fun f => !f.right) < fs.length
  · rw [if_pos hw, if_pos hw]
    have e1 : (0 : Int) ≤ (fs.findIdx (fun f => !f.right) : Nat) := by omega
    simp only [xP_nil, xP_pick, xP_func, xP_not, xP_add, xP_sub, xP_mul, xP_lss, xP_leq, xP_gtr, xP_geq, xP_max2, xP_min2, xR_eql, xR_neq, Nat.zero_add, Nat.add_zero, Nat.reduceAdd, List.getD_cons_zero, List.getD_cons_succ, xIf_true, xIf_false, FA_23_0, FA_23_1, FA_23_2, FA_23_3, FA_23_4, FA_32_0, FA_32_1, FA_32_2, FA_63_0, FA_63_1, FA_63_2, FA_63_3, FA_80_0, FA_80_1, FA_80_2, FA_85_0, FA_85_1, FA_85_2, LEN_24, LEN_25, LEN_30, LEN_33, LEN_58, LEN_82, LEN_134, e1, decide_true]
    exact ⟨hk1, rfl, by omega⟩
  rw [if_neg hw, if_neg hw]
  have e1 : ¬ (0 : Int) ≤ -1 := by omega
  obtain ⟨fa, fc, rfl, hfc, hfr⟩ := hf
  have hf : SlT w encF (.slice fa fs.length fc) fs := ⟨fa, fc, rfl, hfc, hfr⟩
  obtain ⟨ua, uc, rfl, huc, hur⟩ := hv
  have hv : SlT w encB (.slice ua b.length uc) b := ⟨ua, uc, rfl, huc, hur⟩
  have hrt : ∀ f ∈ fs, f.right = true := fun f hm => by
    cases hr : f.right with
    | true => rfl
    | false => exact absurd (List.findIdx_lt_length_of_exists ⟨f, hm, by simp [hr]⟩) hw
  simp only [xP_nil, xP_pick, xP_func, xP_not, xP_add, xP_sub, xP_mul, xP_lss, xP_leq, xP_gtr, xP_geq, xP_max2, xP_min2, xR_eql, xR_neq, Nat.zero_add, Nat.add_zero, Nat.reduceAdd, List.getD_cons_zero, List.getD_cons_succ, xIf_true, xIf_false, FA_23_0, FA_23_1, FA_23_2, FA_23_3, FA_23_4, FA_32_0, FA_32_1, FA_32_2, FA_63_0, FA_63_1, FA_63_2, FA_63_3, FA_80_0, FA_80_1, FA_80_2, FA_85_0, FA_85_1, FA_85_2, LEN_24, LEN_25, LEN_30, LEN_33, LEN_58, LEN_82, LEN_134, e1, decide_false]
  obtain ⟨C, hC⟩ : ∃ C, C = w.heap.size := ⟨_, rfl⟩
  have hz1 := hk1.size
  refine xLoop_of (fun ls w' => ∃ (i : Nat) (o : Value) (F : List Nat) (raws : List RawV) (vs : List GVl) (at' : Nat), ls = [o, .int .i64 at', .int .i64 i] ∧ i ≤ fs.length ∧ at' ≤ b.length ∧ raws.length = i ∧ Own w' 32 3 o i (raws.flatMap encV) F ∧ (∀ g ∈ F, C ≤ g) ∧
      IsRow w' raws vs ∧ (∀ x ∈ raws, Fr C x.lv ∧ Lt w'.heap.size x.lv ∧ Off F x.lv) ∧ (∀ x ∈ raws, x.lv.oneCell' = true) ∧ Kept [] w w' ∧ getRest b.length fs b = (getRest b.length (fs.drop i) (b.drop at')).map (vs ++ ·))
    (fun ls _ => match ls with | [_, _, .int _ i] => fs.length - i.toNat | _ => 0) ⟨0, .slice none 0 0, [], [], [], 0, rfl, by omega, by omega, rfl, own_nil _ _ _, by simp, IsRow.nil _, by simp, by simp, hk1, by simp [Except.map]; cases getRest b.length fs b <;> rfl⟩ ?_
  rintro _ _ w3 ⟨i, o, F, raws, vs, at', rfl, hi, hle, hrl, ho, hF, hrow, hfr', hone, hk3, hget⟩
  have hz3 := hk3.size
  simp only [xP_nil, xP_pick, xP_func, xP_not, xP_add, xP_sub, xP_mul, xP_lss, xP_leq, xP_gtr, xP_geq, xP_max2, xP_min2, xR_eql, xR_neq, Nat.zero_add, Nat.add_zero, Nat.reduceAdd, List.getD_cons_zero, List.getD_cons_succ, xIf_true, xIf_false, FA_23_0, FA_23_1, FA_23_2, FA_23_3, FA_23_4, FA_32_0, FA_32_1, FA_32_2, FA_63_0, FA_63_1, FA_63_2, FA_63_3, FA_80_0, FA_80_1, FA_80_2, FA_85_0, FA_85_1, FA_85_2, LEN_24, LEN_25, LEN_30, LEN_33, LEN_58, LEN_82, LEN_134, xIf_dec]
  refine ⟨fun hlt => ?_, fun hge => ?_⟩
  · have hif : i < fs.length := by omega
    have ed : getRest b.length (fs.drop i) (b.drop at') = match fs[i].pVal (b.drop at') with | .error e => .error (b.length - (b.drop at').length, e) | .ok (v, r') => (getRest b.length (fs.drop (i + 1)) r').map (v :: ·) := by
      rw [List.drop_eq_getElem_cons hif]
      simp only [getRest]
      cases fs[i].pVal (b.drop at') <;> rfl
    have eat : ((b.length : Int) - ((b.drop at').length : Nat)) = (at' : Int) := by rw [List.length_drop]; omega
    refine (rowF.get hf hk3 hif).2 ?_
    have hrti := hrt _ (List.getElem_mem hif)
    have hsi := hs _ (List.getElem_mem hif)
    generalize hff : fs[i] = f at *
    obtain ⟨hkind, hlo, hlh, hmost⟩ := right_kind hrti
    refine xE_alloc Z_23 fun w4 hb4 hk4 hz4 => ?_
    refine xE_storeN (l1 := []) (l2 := [.int .i64 0, .int .i64 0, .int .i64 0, .int .i64 0, .int .i64 0]) (l3 := []) SZ_23 hb4 rfl rfl rfl (encF_cells f) fun w5 hb5 hk5 hz5 => ?_
    have hb5' : Blk w5 w3.heap.size 23 (encF f) := by simpa [Value.cells, vF] using hb5
    have hk35 : Kept [] w3 w5 := hk4.trans hk5 (by simp) (by simp)
    have hz35 := hk35.size
    refine xE_alloc Z_32 fun w6 hb6 hk6 hz6 => ?_
    have hbf6 := hb5'.kept hk6 (by simp)
    have hbv6 : Blk w6 w5.heap.size 32 (encV rawZero) := hb6
    have hk36 : Kept [] w3 w6 := hk35.then hk6 (by simp)
    have hk06 := hk3.then hk36 (by simp)
    generalize hV : w5.heap.size = V at *
    generalize hFB : w3.heap.size = FB at *
    -- when a value does not come
    have bad : ∀ (e : Int) (w' : World), e ≠ 0 → Kept [] w w' → f.pVal (b.drop at') = .error e → Ret (fun r w' => Kept [] w w' ∧ match getRest b.length fs b with
        | .ok vs => ∃ o raws, r = .tuple #[o, .int .i64 0, .int .i64 0] ∧ SlT w' encV o raws ∧ IsRow w' raws vs ∧ (∀ x ∈ raws, Fr w.heap.size x.lv) ∧ (∀ x ∈ raws, x.lv.oneCell' = true)
        | .error (i, k) => r = .tuple #[.slice none 0 0, .int .i64 k, .int .i64 i] ∧ k ≠ 0) (.returned (.tuple #[.slice none 0 0, .int .i64 e, .int .i64 at'])) w' := fun e w' he hk hp => by
      rw [hget, ed, hp]
      simp only [Except.map]
      rw [eat]
      exact ⟨hk, rfl, he⟩
    refine xJoin_of (fun ls w' => Kept [] w3 w' ∧ ∃ x, Blk w' V 32 (encV x) ∧ x.lv.oneCell' = true ∧ match f.pVal (b.drop at') with
      | .ok (v, rest) => IsV w' x v ∧ Fr (V + 1) x.lv ∧ Lt w'.heap.size x.lv ∧ ∃ at2 : Nat, ls = [.int .i64 at2, .int .i64 0] ∧ rest = b.drop at2 ∧ at2 ≤ b.length
      | .error e => e ≠ 0 ∧ ∃ n : Nat, ls = [.int .i64 n, .int .i64 e]) ?_ ?_
    · obtain ⟨L0, L1, L2, L3, L4, L5⟩ := ldF hbf6
      simp only [xP_nil, xP_pick, xP_func, xP_not, xP_add, xP_sub, xP_mul, xP_lss, xP_leq, xP_gtr, xP_geq, xP_max2, xP_min2, xR_eql, xR_neq, Nat.zero_add, Nat.add_zero, Nat.reduceAdd, List.getD_cons_zero, List.getD_cons_succ, xIf_true, xIf_false, FA_23_0, FA_23_1, FA_23_2, FA_23_3, FA_23_4, FA_32_0, FA_32_1, FA_32_2, FA_63_0, FA_63_1, FA_63_2, FA_63_3, FA_80_0, FA_80_1, FA_80_2, FA_85_0, FA_85_1, FA_85_2, LEN_24, LEN_25, LEN_30, LEN_33, LEN_58, LEN_82, LEN_134, L0, L1, L2, L3, xIf_dec]
      refine ⟨fun k1 => ?_, fun k1 => ⟨fun k2 => ?_, fun k2 => ⟨fun k3 => ?_, fun k3 => by omega⟩⟩⟩
      · obtain ⟨k, hk8, hks⟩ : ∃ k : Nat, k ≤ 8 ∧ f.size = k := by
          rcases right_size hrti k1 with h | h | h | h <;> exact ⟨f.size.toNat, by omega, by omega⟩
        have ev : f.pVal (b.drop at') = match pNum k f.lo f.hi (b.drop at') with | .error e => .error e | .ok (n, r') => .ok (⟨n, strEmpty, []⟩, r') := by
          unfold GFd.pVal
          rw [if_pos k1, hks, Int.toNat_natCast]
          cases pNum k f.lo f.hi (b.drop at') <;> rfl
        rw [hks, wrap64 (by omega) (by omega)]
        refine ⟨fun hshort => ?_, fun hlong => ?_⟩
        · exact bad 3 w6 (by omega) hk06 (by rw [ev]; unfold pNum; rw [List.length_drop, if_pos (by omega)])
        · rw [wrap64 (by omega) (by omega)]
          refine (xP_slice SL_25 SZ_5 (by omega) (by omega) (by omega)).2 ?_
          have hsub := SlT.sub (i := at') (j := at' + k) encB_len (hv.kept0 hk06) (by omega) (by omega)
          have e1 : ((at' : Int) + k).toNat - (at' : Int).toNat = k := by omega
          have e2 : at' + k - at' = k := by omega
          rw [e1, Int.toNat_natCast]
          rw [e2] at hsub
          refine xE_call CF_53 (dbig_ok hsub (by rw [List.length_take]; omega)) ?_
          rintro _ _ ⟨rfl, rfl⟩
          have hnl : leNat ((b.drop at').take k) < 2 ^ 64 := by
            have := leNat_lt ((b.drop at').take k)
            have hl8 : ((b.drop at').take k).length ≤ 8 := by rw [List.length_take]; omega
            exact Nat.lt_of_lt_of_le this (Nat.le_trans (Nat.pow_le_pow_right (by omega) hl8) (by omega))
          generalize hn : leNat ((b.drop at').take k) = n at *
          refine xJoin_of (fun vs w' => vs = [.bool (decide ((n : Int) < f.lo ∨ f.hi < n))] ∧ w6 = w') ?_ ?_
          · simp only [xP_nil, xP_pick, xP_func, xP_not, xP_add, xP_sub, xP_mul, xP_lss, xP_leq, xP_gtr, xP_geq, xP_max2, xP_min2, xR_eql, xR_neq, Nat.zero_add, Nat.add_zero, Nat.reduceAdd, List.getD_cons_zero, List.getD_cons_succ, xIf_true, xIf_false, FA_23_0, FA_23_1, FA_23_2, FA_23_3, FA_23_4, FA_32_0, FA_32_1, FA_32_2, FA_63_0, FA_63_1, FA_63_2, FA_63_3, FA_80_0, FA_80_1, FA_80_2, FA_85_0, FA_85_1, FA_85_2, LEN_24, LEN_25, LEN_30, LEN_33, LEN_58, LEN_82, LEN_134, L2, L3, xP_conv INT_3 INT_92, wrapU64 hlo (show f.lo ≤ 18446744073709551615 by omega), wrapU64 (show 0 ≤ f.hi by omega) (show f.hi ≤ 18446744073709551615 by omega), xIf_dec]
            exact ⟨fun a => ⟨by simp [a], trivial⟩, fun a => ⟨by simp [a], trivial⟩⟩
          rintro _ _ _ ⟨rfl, rfl⟩
          simp only [xP_nil, xP_pick, xP_func, xP_not, xP_add, xP_sub, xP_mul, xP_lss, xP_leq, xP_gtr, xP_geq, xP_max2, xP_min2, xR_eql, xR_neq, Nat.zero_add, Nat.add_zero, Nat.reduceAdd, List.getD_cons_zero, List.getD_cons_succ, xIf_true, xIf_false, FA_23_0, FA_23_1, FA_23_2, FA_23_3, FA_23_4, FA_32_0, FA_32_1, FA_32_2, FA_63_0, FA_63_1, FA_63_2, FA_63_3, FA_80_0, FA_80_1, FA_80_2, FA_85_0, FA_85_1, FA_85_2, LEN_24, LEN_25, LEN_30, LEN_33, LEN_58, LEN_82, LEN_134, xIf_dec]
          refine ⟨fun hbad => ?_, fun hgood => ?_⟩
          · exact bad 2 w6 (by omega) hk06 (by rw [ev]; unfold pNum; rw [List.length_drop, if_neg (by omega), hn, if_pos hbad])
          · refine (xP_conv INT_92 INT_3).2 ?_
            rw [wrap64 (x := (n : Int)) (by omega) (by omega)]
            obtain ⟨M0, M1, M2, M3, M4, M5⟩ := ldF (blk_drew hbf6)
            simp only [M1, hks]
            refine xP_add.2 ?_
            rw [wrap64 (by omega) (by omega)]
            refine xE_store1 SZ_3 (blk_drew hbv6) (by simp [encV, rawZero]) rfl fun w7 hb7 hk7 hz7 => ?_
            have hk67 : Kept [V] w6 w7 := (kept_drew _ w6).then hk7 (by simp)
            have hbf7 := hbf6.kept hk67 (by simp; omega)
            obtain ⟨N0, N1, N2, N3, N4, N5⟩ := ldF hbf7
            have hst := still1 (P := Tryd.prog) (T := 3) (w := w7) (a := ⟨FB, 1, none⟩) (v := .int .i64 f.size) (B := True) ONE_3 (hbf7.cell (o := 1))
            rw [hks] at hst
            refine (still1 ONE_3 (by rw [← hks]; exact hbf7.cell (o := 1))).2 ?_
            refine ⟨hk36.then hk67 (by simp; omega), ⟨n, strEmpty, .slice none 0 0⟩, by simpa [encV, rawZero] using hb7, rfl, ?_⟩
            rw [ev]
            unfold pNum
            rw [List.length_drop, if_neg (by omega), hn, if_neg hgood]
            exact ⟨⟨rfl, rfl, SlT.nil_ _ _⟩, Fr.nil _, Lt.nil _, at' + k, by simp, by rw [List.drop_drop], by omega⟩
      · have ev : f.pVal (b.drop at') = match pText f.lo f.hi (b.drop at') with | .error e => .error e | .ok (s, r') => .ok (⟨0, s, []⟩, r') := by
          unfold GFd.pVal
          rw [if_neg k1, if_pos k2]
          cases pText f.lo f.hi (b.drop at') <;> rfl
        refine xE_call CF_54 (done_ok (hv.kept0 hk06) hle hbl) ?_
        rintro u _ ⟨hp, rfl⟩
        unfold DOnePost at hp
        rw [ev]
        have fin : ∀ (s : ByteArray) (e n : Int) (K : Value → Value → World → Prop), (∀ w', Kept [V] w6 w' → Blk w' V 32 (encV ⟨0, s, .slice none 0 0⟩) → K (.int .i64 n) (.int .i64 e) w') →
            (xP Tryd.prog (sExtract (.tuple #[.string s, .int .i64 n, .int .i64 e]) 0) fun v81 => xP Tryd.prog (sExtract (.tuple #[.string s, .int .i64 n, .int .i64 e]) 1) fun v82 => xP Tryd.prog (sExtract (.tuple #[.string s, .int .i64 n, .int .i64 e]) 2) fun v83 =>
              xE Tryd.prog (sStore 9 (.pointer (some ⟨V, 1, none⟩)) v81) w6 fun _ w61 => K v82 v83 w61) := fun s e n K hK => by
          refine (xP_extract rfl).2 ?_
          refine (xP_extract rfl).2 ?_
          refine (xP_extract rfl).2 ?_
          refine xE_store1 SZ_9 hbv6 (by simp [encV, rawZero]) rfl fun w7 hb7 hk7 hz7 => ?_
          exact hK w7 hk7 (by simpa [encV, rawZero] using hb7)
        cases hpt : pText f.lo f.hi (b.drop at') with
        | error e =>
          rw [hpt] at hp
          obtain ⟨rfl, he⟩ := hp
          refine fin _ _ _ _ fun w7 hk7 hb7 => ?_
          exact ⟨hk36.then hk7 (by simp; omega), _, hb7, rfl, he, at', rfl⟩
        | ok q =>
          obtain ⟨s, r⟩ := q
          rw [hpt] at hp
          obtain ⟨at2, rfl, rfl, h2⟩ := hp
          refine fin _ _ _ _ fun w7 hk7 hb7 => ?_
          exact ⟨hk36.then hk7 (by simp; omega), _, hb7, rfl, ⟨rfl, rfl, SlT.nil_ _ _⟩, Fr.nil _, Lt.nil _, at2, rfl, rfl, h2⟩
      · obtain ⟨hm0, hm1⟩ := hmost k3
        have ev : f.pVal (b.drop at') = match pNum 1 f.lo f.hi (b.drop at') with | .error e => .error e | .ok (k, r') => match pTexts f.most k.toNat r' with | .error e => .error e | .ok (l, r'') => .ok (⟨0, strEmpty, l⟩, r'') := by
          unfold GFd.pVal
          rw [if_neg k1, if_neg k2]
          cases pNum 1 f.lo f.hi (b.drop at') with
          | error e => rfl
          | ok q =>
            simp only
            cases pTexts f.most q.1.toNat q.2 <;> rfl
        rw [wrap64 (by omega) (by omega)]
        refine ⟨fun hshort => ?_, fun hlong => ?_⟩
        · exact bad 3 w6 (by omega) hk06 (by rw [ev]; unfold pNum; rw [List.length_drop, if_pos (by omega)])
        have hal : at' < b.length := by omega
        refine (rowB.get hv hk06 hal).2 ?_
        have hx := (b[at']).toNat_lt
        refine (xP_conv INT_5 INT_3).2 ?_
        rw [wrap64 (by omega) (by omega)]
        have hn : leNat ((b.drop at').take 1) = b[at'].toNat := by
          rw [List.drop_eq_getElem_cons hal, List.take_succ_cons, List.take_zero]
          rfl
        generalize b[at'].toNat = n at *
        refine xJoin_of (fun vs w' => vs = [.bool (decide ((n : Int) < f.lo ∨ f.hi < n))] ∧ w6 = w') ?_ ?_
        · simp only [xP_nil, xP_pick, xP_func, xP_not, xP_add, xP_sub, xP_mul, xP_lss, xP_leq, xP_gtr, xP_geq, xP_max2, xP_min2, xR_eql, xR_neq, Nat.zero_add, Nat.add_zero, Nat.reduceAdd, List.getD_cons_zero, List.getD_cons_succ, xIf_true, xIf_false, FA_23_0, FA_23_1, FA_23_2, FA_23_3, FA_23_4, FA_32_0, FA_32_1, FA_32_2, FA_63_0, FA_63_1, FA_63_2, FA_63_3, FA_80_0, FA_80_1, FA_80_2, FA_85_0, FA_85_1, FA_85_2, LEN_24, LEN_25, LEN_30, LEN_33, LEN_58, LEN_82, LEN_134, L2, L3, xIf_dec]
          exact ⟨fun a => ⟨by simp [a], trivial⟩, fun a => ⟨by simp [a], trivial⟩⟩
        rintro _ _ _ ⟨rfl, rfl⟩
        simp only [xP_nil, xP_pick, xP_func, xP_not, xP_add, xP_sub, xP_mul, xP_lss, xP_leq, xP_gtr, xP_geq, xP_max2, xP_min2, xR_eql, xR_neq, Nat.zero_add, Nat.add_zero, Nat.reduceAdd, List.getD_cons_zero, List.getD_cons_succ, xIf_true, xIf_false, FA_23_0, FA_23_1, FA_23_2, FA_23_3, FA_23_4, FA_32_0, FA_32_1, FA_32_2, FA_63_0, FA_63_1, FA_63_2, FA_63_3, FA_80_0, FA_80_1, FA_80_2, FA_85_0, FA_85_1, FA_85_2, LEN_24, LEN_25, LEN_30, LEN_33, LEN_58, LEN_82, LEN_134, xIf_dec]
        refine ⟨fun hbad => ?_, fun hgood => ?_⟩
        · exact bad 2 w6 (by omega) hk06 (by rw [ev]; unfold pNum; rw [List.length_drop, if_neg (by omega), hn, if_pos hbad])
        rw [wrap64 (by omega) (by omega)]
        have ev2 : f.pVal (b.drop at') = match pTexts f.most n (b.drop (at' + 1)) with | .error e => .error e | .ok (l, r'') => .ok (⟨0, strEmpty, l⟩, r'') := by
          rw [ev]
          unfold pNum
          rw [List.length_drop, if_neg (by omega), hn, if_neg hgood]
          simp only [Int.toNat_natCast, List.drop_drop]
        refine xLoop_of (fun ls w' => ∃ (j : Nat) (L : List ByteArray) (lv : Value) (F2 : List Nat) (at2 : Nat) (e : Int), ls = [.int .i64 at2, .int .i64 e, .int .i64 j] ∧ j ≤ n ∧ L.length = j ∧ at2 ≤ b.length ∧ Own w' 9 1 lv j (L.flatMap encS) F2 ∧ (∀ g ∈ F2, V + 1 ≤ g) ∧ lv.oneCell' = true ∧
            Blk w' FB 23 (encF f) ∧ Blk w' V 32 (encV ⟨0, strEmpty, lv⟩) ∧ Kept [] w3 w' ∧ V + 1 ≤ w'.heap.size ∧
            ((e = 0 ∧ f.pVal (b.drop at') = match pTexts f.most (n - j) (b.drop at2) with | .error e => .error e | .ok (l, r'') => .ok (⟨0, strEmpty, L ++ l⟩, r'')) ∨ (e ≠ 0 ∧ f.pVal (b.drop at') = .error e)))
          (fun ls _ => match ls with | [_, _, .int _ j] => n - j.toNat | _ => 0) ⟨0, [], .slice none 0 0, [], at' + 1, 0, by simp, by omega, rfl, by omega, own_nil _ _ _, by simp, rfl, hbf6, hbv6, hk36, by omega, .inl ⟨rfl, by rw [ev2]; simp only [Nat.sub_zero, List.nil_append]⟩⟩ ?_
        rintro _ _ w7 ⟨j, L, lv, F2, at2, e, rfl, hjn, hL, ha2, ho7, hF7, hone7, hbf7, hbv7, hk7, hz7, hst⟩
        refine xJoin_of (fun vs w' => vs = [.bool (decide (j < n ∧ e = 0))] ∧ w7 = w') ?_ ?_
        · simp only [xP_nil, xP_pick, xP_func, xP_not, xP_add, xP_sub, xP_mul, xP_lss, xP_leq, xP_gtr, xP_geq, xP_max2, xP_min2, xR_eql, xR_neq, Nat.zero_add, Nat.add_zero, Nat.reduceAdd, List.getD_cons_zero, List.getD_cons_succ, xIf_true, xIf_false, FA_23_0, FA_23_1, FA_23_2, FA_23_3, FA_23_4, FA_32_0, FA_32_1, FA_32_2, FA_63_0, FA_63_1, FA_63_2, FA_63_3, FA_80_0, FA_80_1, FA_80_2, FA_85_0, FA_85_1, FA_85_2, LEN_24, LEN_25, LEN_30, LEN_33, LEN_58, LEN_82, LEN_134, xIf_dec]
          refine ⟨fun a => ⟨?_, trivial⟩, fun a => ⟨?_, trivial⟩⟩
          · rw [decide_eq_decide.2 (show (e = 0) ↔ (j < n ∧ e = 0) by omega)]
          · rw [decide_eq_false (show ¬ (j < n ∧ e = 0) by omega)]
        rintro _ _ _ ⟨rfl, rfl⟩
        simp only [xP_nil, xP_pick, xP_func, xP_not, xP_add, xP_sub, xP_mul, xP_lss, xP_leq, xP_gtr, xP_geq, xP_max2, xP_min2, xR_eql, xR_neq, Nat.zero_add, Nat.add_zero, Nat.reduceAdd, List.getD_cons_zero, List.getD_cons_succ, xIf_true, xIf_false, FA_23_0, FA_23_1, FA_23_2, FA_23_3, FA_23_4, FA_32_0, FA_32_1, FA_32_2, FA_63_0, FA_63_1, FA_63_2, FA_63_3, FA_80_0, FA_80_1, FA_80_2, FA_85_0, FA_85_1, FA_85_2, LEN_24, LEN_25, LEN_30, LEN_33, LEN_58, LEN_82, LEN_134, xIf_dec]
        refine ⟨fun hgo => ?_, fun hstop => ?_⟩
        · obtain ⟨hjlt, rfl⟩ := hgo
          obtain ⟨_, hst⟩ := hst.resolve_right (by simp)
          obtain ⟨M0, M1, M2, M3, M4, M5⟩ := ldF hbf7
          simp only [M4]
          refine xE_call CF_54 (done_ok (hv.kept0 (hk3.then hk7 (by simp))) ha2 hbl) ?_
          rintro u _ ⟨hp, rfl⟩
          unfold DOnePost at hp
          rw [show n - j = (n - (j + 1)) + 1 by omega] at hst
          unfold pTexts at hst
          obtain ⟨s, at3, e3, rfl, ha3, hst3⟩ : ∃ (s : ByteArray) (at3 : Nat) (e3 : Int), u = .tuple #[.string s, .int .i64 at3, .int .i64 e3] ∧ at3 ≤ b.length ∧
              ((e3 = 0 ∧ f.pVal (b.drop at') = match pTexts f.most (n - (j + 1)) (b.drop at3) with | .error e => .error e | .ok (l, r'') => .ok (⟨0, strEmpty, (L ++ [s]) ++ l⟩, r'')) ∨ (e3 ≠ 0 ∧ f.pVal (b.drop at') = .error e3)) := by
            cases hpt : pText 0 f.most (b.drop at2) with
            | error e =>
              rw [hpt] at hp hst
              exact ⟨strEmpty, at2, e, hp.1, ha2, .inr ⟨hp.2, hst⟩⟩
            | ok q =>
              obtain ⟨s, r⟩ := q
              rw [hpt] at hp hst
              obtain ⟨at3, hu, rfl, h3⟩ := hp
              refine ⟨s, at3, 0, hu, h3, .inl ⟨rfl, ?_⟩⟩
              rw [hst]
              simp only
              cases pTexts f.most (n - (j + 1)) (b.drop at3) with
              | error e => rfl
              | ok q => simp
          refine (xP_extract rfl).2 ?_
          refine (xP_extract rfl).2 ?_
          refine (xP_extract rfl).2 ?_
          obtain ⟨N0, N1, N2, N3⟩ := ldV (x := ⟨0, strEmpty, lv⟩) hbv7
          simp only [N2]
          refine xE_buildSlice EL_30 [.string s] rfl rfl (by simp [Value.cells]) (by omega) (by omega) fun w8 hb8 hk8 hz8 => ?_
          have hat : At w8 w7.heap.size 0 ([s].flatMap encS) := hb8.at
          refine xE_append (m := 1) EL_30 (ho7.kept hk8 (by simp)) hat rfl (by simp [encS]; rfl) (by omega) (by unfold maxLen; omega) (by omega) fun lv' w9 F3 ho9 hk9 hF9 hone9 => ?_
          have hnV : V ∉ F2 := fun hm => by have := hF7 _ hm; omega
          have hnF : FB ∉ F2 := fun hm => by have := hF7 _ hm; omega
          have hbv9 := (hbv7.kept hk8 (by simp)).kept hk9 hnV
          have hbf9 := (hbf7.kept hk8 (by simp)).kept hk9 hnF
          try simp only [xP_nil, xP_pick, xP_func, xP_not, xP_add, xP_sub, xP_mul, xP_lss, xP_leq, xP_gtr, xP_geq, xP_max2, xP_min2, xR_eql, xR_neq, Nat.zero_add, Nat.add_zero, Nat.reduceAdd, List.getD_cons_zero, List.getD_cons_succ, xIf_true, xIf_false, FA_23_0, FA_23_1, FA_23_2, FA_23_3, FA_23_4, FA_32_0, FA_32_1, FA_32_2, FA_63_0, FA_63_1, FA_63_2, FA_63_3, FA_80_0, FA_80_1, FA_80_2, FA_85_0, FA_85_1, FA_85_2, LEN_24, LEN_25, LEN_30, LEN_33, LEN_58, LEN_82, LEN_134]
          refine xE_store1 SZ_30 hbv9 (by simp [encV]) hone9 fun w10 hb10 hk10 hz10 => ?_
          rw [wrap64 (by omega) (by omega)]
          have hz9 := hk9.size
          have hF3 : ∀ g ∈ F3, V + 1 ≤ g := fun g hg => (hF9 g hg).elim (hF7 g) (fun h => by omega)
          refine ⟨⟨j + 1, L ++ [s], lv', F3, at3, e3, rfl, hjlt, by simp [hL], ha3, ?_, hF3, hone9, hbf9.kept hk10 (by simp; omega), by simpa [encV] using hb10, ((hk7.then hk8 (by simp)).then hk9 (fun g hg => .inr (by have := hF7 g hg; omega))).then hk10 (by simp; omega), by omega, hst3⟩, by omega⟩
          rw [List.flatMap_append]
          exact ho9.kept hk10 (fun g hg hm => by have := hF3 g hg; simp at hm; omega)
        · refine ⟨hk7, ⟨0, strEmpty, lv⟩, hbv7, hone7, ?_⟩
          rcases hst with ⟨rfl, hst⟩ | ⟨he, hst⟩
          · obtain rfl : j = n := by omega
            rw [Nat.sub_self] at hst
            unfold pTexts at hst
            rw [hst]
            subst hL
            refine ⟨⟨rfl, rfl, by simpa using ho7.slT encS_len (by omega)⟩, fun bb o n cc hv => hF7 _ (ho7.addr bb o n cc hv), fun bb o n cc hv => ho7.lt _ (ho7.addr bb o n cc hv), at2, rfl, rfl, ha2⟩
          · rw [hst]
            exact ⟨he, at2, rfl⟩
    · rintro ls _ w7 ⟨hk37, x, hbv7, hone7, hst⟩
      have hk07 := hk3.then hk37 (by simp)
      cases hpv : f.pVal (b.drop at') with
      | error e =>
        rw [hpv] at hst
        obtain ⟨he, n, rfl⟩ := hst
        simp only [xP_nil, xP_pick, xP_func, xP_not, xP_add, xP_sub, xP_mul, xP_lss, xP_leq, xP_gtr, xP_geq, xP_max2, xP_min2, xR_eql, xR_neq, Nat.zero_add, Nat.add_zero, Nat.reduceAdd, List.getD_cons_zero, List.getD_cons_succ, xIf_true, xIf_false, FA_23_0, FA_23_1, FA_23_2, FA_23_3, FA_23_4, FA_32_0, FA_32_1, FA_32_2, FA_63_0, FA_63_1, FA_63_2, FA_63_3, FA_80_0, FA_80_1, FA_80_2, FA_85_0, FA_85_1, FA_85_2, LEN_24, LEN_25, LEN_30, LEN_33, LEN_58, LEN_82, LEN_134, ne_eq, he, not_false_eq_true, decide_true]
        exact bad e w7 he hk07 hpv
      | ok q =>
        obtain ⟨val, rest⟩ := q
        rw [hpv] at hst
        obtain ⟨hval, hfrx, hltx, at2, rfl, rfl, ha2⟩ := hst
        obtain ⟨V0, V1, V2, V3⟩ := ldV (x := x) hbv7
        simp only [xP_nil, xP_pick, xP_func, xP_not, xP_add, xP_sub, xP_mul, xP_lss, xP_leq, xP_gtr, xP_geq, xP_max2, xP_min2, xR_eql, xR_neq, Nat.zero_add, Nat.add_zero, Nat.reduceAdd, List.getD_cons_zero, List.getD_cons_succ, xIf_true, xIf_false, FA_23_0, FA_23_1, FA_23_2, FA_23_3, FA_23_4, FA_32_0, FA_32_1, FA_32_2, FA_63_0, FA_63_1, FA_63_2, FA_63_3, FA_80_0, FA_80_1, FA_80_2, FA_85_0, FA_85_1, FA_85_2, LEN_24, LEN_25, LEN_30, LEN_33, LEN_58, LEN_82, LEN_134, show decide ((0 : Int) ≠ 0) = false from rfl, V3]
        refine xE_buildSlice EL_33 [vV x] rfl rfl (by simp [vV, encV, Value.cells]) (by omega) (by omega) fun w9 hb9 hk9 hz9 => ?_
        have hat : At w9 w7.heap.size 0 ([x].flatMap encV) := by
          have := hb9.at
          simpa [vV, Value.cells] using this
        have hk39 : Kept [] w3 w9 := hk37.then hk9 (by simp)
        have ho9 : Own w9 32 3 o i (raws.flatMap encV) F := ho.kept hk39 (by simp)
        refine xE_append (m := 1) EL_33 ho9 hat (by rw [flat_len encV_len]; rfl) (by intro a ha; simp at ha; exact encV_one hone7 a ha) (by omega) (by unfold maxLen; omega) (by omega) fun o' w10 F' ho' hk10 hF' _ => ?_
        rw [wrap64 (by omega) (by omega)]
        have hz10 := hk10.size
        have hz39 := hk39.size
        have hz79 := hk9.size
        have hFlt : ∀ g ∈ F, g < FB := by rw [← hFB]; exact ho.lt
        have hF2 : ∀ g ∈ F', C ≤ g := fun g hg => (hF' g hg).elim (hF g) (fun h => by omega)
        have hrow9 : IsRow w9 raws vs := hrow.kept0 hk39
        have hrow10 : IsRow w10 raws vs := hrow9.keptOff (fun x hx => (hfr' x hx).2.2) hk10
        have hxoff : Off F x.lv := fun bb oo n cc hv hm => by
          have := hfrx bb oo n cc hv
          have := hFlt bb hm
          omega
        have hval10 : IsV w10 x val := IsV.keptOff (hval.kept0 hk9) hxoff hk10
        refine ⟨⟨i + 1, o', F', raws ++ [x], vs ++ [val], at2, rfl, hif, ha2, by simp [hrl], by rw [List.flatMap_append]; simpa using ho', hF2, hrow10.snoc hval10, ?_, ?_, (hk3.then hk39 (by simp)).then hk10 (fun g hg => .inr (by have := hF g hg; omega)), ?_⟩, by omega⟩
        · intro y hy
          rcases List.mem_append.1 hy with hy | hy
          · obtain ⟨h1, h2, h3⟩ := hfr' y hy
            refine ⟨h1, h2.mono (by omega), fun bb oo n cc hv hm => ?_⟩
            rcases hF' bb hm with hm | hm
            · exact h3 bb oo n cc hv hm
            · have := h2 bb oo n cc hv
              omega
          · simp at hy
            subst hy
            refine ⟨hfrx.mono (by omega), hltx.mono (by omega), fun bb oo n cc hv hm => ?_⟩
            rcases hF' bb hm with hm | hm
            · exact hxoff bb oo n cc hv hm
            · have := hltx bb oo n cc hv
              omega
        · intro y hy
          rcases List.mem_append.1 hy with hy | hy
          · exact hone y hy
          · simp at hy
            subst hy
            exact hone7
        · rw [hget, ed, hpv]
          simp only
          cases getRest b.length (fs.drop (i + 1)) (b.drop at2) <;> simp [Except.map]
  · obtain rfl : i = fs.length := by omega
    rw [hget, List.drop_length]
    refine ⟨fun hlt => ?_, fun hge => ?_⟩
    · have hne : (b.drop at').isEmpty = false := by
        rw [List.isEmpty_eq_false_iff]
        intro h0
        have := congrArg List.length h0
        rw [List.length_drop] at this
        simp at this
        omega
      simp only [getRest, hne, Except.map, Bool.false_eq_true, if_false, List.length_drop]
      rw [show ((b.length : Int) - ((b.length - at' : Nat) : Int)) = (at' : Int) by omega]
      exact ⟨hk3, rfl, by omega⟩
    · refine ⟨hk3, ?_⟩
      have hne : (b.drop at').isEmpty = true := by
        rw [List.isEmpty_iff]
        exact List.drop_eq_nil_of_le (by omega)
      simp only [getRest, hne, Except.map, if_true, List.append_nil]
      refine ⟨o, raws, rfl, ?_, hrow, fun x hx => hC ▸ (hfr' x hx).1, hone⟩
      rw [← hrl] at ho
      exact ho.slT encV_len (by omega)
end Go.Proofs.YtclojjiiiejfpaaDoor
