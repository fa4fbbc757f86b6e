import Derived.Test.YtclojjiiiejfpaaDoorXgGram4
import Derived.Test.YtclojjiiiejfpaaDoorXB
namespace Go.Proofs.YtclojjiiiejfpaaDoor
set_option linter.unusedSimpArgs false
set_option linter.unusedVariables false
set_option maxRecDepth 100000
attribute [local irreducible] Go.X.xE
open Go Go.X Go.RowKit

/-! ## The document's own grammar: fields -/
theorem shl_small {n : Nat} {K : Value → Prop} (h : n ≤ 32) : xP Tryd.prog (sBin .shl 3 (.int .i64 1) (.int .i64 (n : Nat))) K ↔ K (.int .i64 ((2 ^ n : Nat) : Int)) := by
  refine (xP_shl (by omega)).trans ?_
  have e : min ((n : Nat) : Int).toNat IntKind.i64.bits = n := by
    rw [Int.toNat_natCast]
    exact Nat.min_eq_left (by show n ≤ 64; omega)
  have hp : 2 ^ n ≤ 2 ^ 32 := Nat.pow_le_pow_right (by omega) h
  have e1 : ((1 : Int) * 2 ^ n) = ((2 ^ n : Nat) : Int) := by rw [Int.one_mul, Int.natCast_pow]; rfl
  have hp2 : 2 ^ n ≤ 4294967296 := hp
  rw [e, e1, wrap64 (by generalize 2 ^ n = m at *; omega) (by generalize 2 ^ n = m at *; omega)]
theorem div_lt {h : Int} {n : Nat} (h0 : 0 ≤ h) : decide (h / 2 ^ n = 0) = decide (h < ((2 ^ n : Nat) : Int)) := by
  rw [decide_eq_decide]
  have e : (2 : Int) ^ n = ((2 ^ n : Nat) : Int) := by rw [Int.natCast_pow]; rfl
  have hp : (0 : Int) < ((2 ^ n : Nat) : Int) := by have := Nat.pow_pos (n := n) (show 0 < 2 by omega); omega
  rw [e]
  constructor
  · intro hh
    rcases Int.lt_or_le h ((2 ^ n : Nat) : Int) with h1 | h1
    · exact h1
    · have := Int.le_ediv_of_mul_le hp (show 1 * ((2 ^ n : Nat) : Int) ≤ h by omega)
      omega
  · intro hh
    exact Int.ediv_eq_zero_of_lt h0 hh

theorem dright_ok {f : GFd} {w : World} : Gives Tryd.prog 24 #[vF f] w fun u w' => u = .bool f.right ∧ Kept [] w w' := by
  refine C_staveref1_RightField ?_
  unfold S_staveref1_RightField
  refine xE_box fun w1 hb1 hk1 hz1 => ?_
  have hb1' : Blk w1 w.heap.size 23 (encF f) := hb1
  obtain ⟨L0, L1, L2, L3, L4, L5⟩ := ldF (f := f) hb1'
  obtain ⟨M0, M1, M2, M3, M4, M5⟩ := ldF (f := f) (blk_drew hb1')
  have hkd := hk1.drew
  refine xJoin_of (fun vs w' => vs = [.bool (decide (f.lo < 0 ∨ f.hi < f.lo))] ∧ w1 = w') ?_ ?_
  · simp only [xP_nil, xP_pick, xP_func, xP_not, xP_add, xP_sub, xP_mul, xP_lss, xP_leq, xP_gtr, xP_geq, xP_max2, xP_min2, xR_eql, xR_neq, Nat.zero_add, Nat.add_zero, Nat.reduceAdd, List.getD_cons_zero, List.getD_cons_succ, xIf_true, xIf_false, FA_23_0, FA_23_1, FA_23_2, FA_23_3, FA_23_4, FA_32_0, FA_32_1, FA_32_2, FA_63_0, FA_63_1, FA_63_2, FA_63_3, FA_80_0, FA_80_1, FA_80_2, FA_85_0, FA_85_1, FA_85_2, LEN_24, LEN_25, LEN_30, LEN_33, LEN_58, LEN_82, LEN_134, L2, L3, xIf_dec]
    exact ⟨fun a => ⟨by simp [a], trivial⟩, fun a => ⟨by simp [a], trivial⟩⟩
  rintro _ _ _ ⟨rfl, rfl⟩
  simp only [xP_nil, xP_pick, xP_func, xP_not, xP_add, xP_sub, xP_mul, xP_lss, xP_leq, xP_gtr, xP_geq, xP_max2, xP_min2, xR_eql, xR_neq, Nat.zero_add, Nat.add_zero, Nat.reduceAdd, List.getD_cons_zero, List.getD_cons_succ, xIf_true, xIf_false, FA_23_0, FA_23_1, FA_23_2, FA_23_3, FA_23_4, FA_32_0, FA_32_1, FA_32_2, FA_63_0, FA_63_1, FA_63_2, FA_63_3, FA_80_0, FA_80_1, FA_80_2, FA_85_0, FA_85_1, FA_85_2, LEN_24, LEN_25, LEN_30, LEN_33, LEN_58, LEN_82, LEN_134, xIf_dec]
  refine ⟨fun hbad => ⟨?_, hk1⟩, fun hgood => ?_⟩
  · unfold GFd.right
    have : (decide (f.lo < 0) || decide (f.hi < f.lo)) = true := by simpa using hbad
    rw [this]; rfl
  have er : f.right = if f.kind = 1 then decide (f.most = 0) && ((decide (f.size = 1 ∨ f.size = 2 ∨ f.size = 4) && decide (f.hi / 2 ^ (8 * f.size).toNat = 0)) || decide (f.size = 8))
      else if f.kind = 3 then !(decide (255 < f.hi) || decide (f.most < 0) || decide (65535 < f.most)) && decide (f.size = 0 ∧ f.hi ≤ 65535)
      else if f.kind = 2 then decide (f.size = 0 ∧ f.most = 0 ∧ f.hi ≤ 65535)
      else false := by
    unfold GFd.right
    have : (decide (f.lo < 0) || decide (f.hi < f.lo)) = false := by
      rw [Bool.or_eq_false_iff, decide_eq_false_iff_not, decide_eq_false_iff_not]; omega
    rw [this]; rfl
  have h0 : 0 ≤ f.hi := by omega
  rw [er]
  simp only [L0, L1, L3, L4, M1, M3, M4, xP_nil, xP_pick, xP_func, xP_not, xP_add, xP_sub, xP_mul, xP_lss, xP_leq, xP_gtr, xP_geq, xP_max2, xP_min2, xR_eql, xR_neq, Nat.zero_add, Nat.add_zero, Nat.reduceAdd, List.getD_cons_zero, List.getD_cons_succ, xIf_true, xIf_false, FA_23_0, FA_23_1, FA_23_2, FA_23_3, FA_23_4, FA_32_0, FA_32_1, FA_32_2, FA_63_0, FA_63_1, FA_63_2, FA_63_3, FA_80_0, FA_80_1, FA_80_2, FA_85_0, FA_85_1, FA_85_2, LEN_24, LEN_25, LEN_30, LEN_33, LEN_58, LEN_82, LEN_134, xIf_dec]
  refine ⟨fun k1 => ⟨fun m0 => ⟨fun s8 => ⟨by simp [k1, m0, s8], hkd⟩, fun s8 => ⟨fun s1 => ?_, fun s1 => ⟨fun s2 => ?_, fun s2 => ⟨fun s4 => ?_, fun s4 => ⟨by simp [k1, m0, s8, s1, s2, s4], hkd⟩⟩⟩⟩⟩, fun m0 => ⟨by simp [k1, m0], hkd⟩⟩, fun k1 => ⟨fun k2 => ?_, fun k2 => ⟨fun k3 => ?_, fun k3 => ⟨by simp [k1, k2, k3], hk1⟩⟩⟩⟩
  · rw [s1]
    rw [wrap64 (by omega) (by omega)]
    refine (shl_small (n := 8) (by omega)).2 ?_
    try simp only [xP_nil, xP_pick, xP_func, xP_not, xP_add, xP_sub, xP_mul, xP_lss, xP_leq, xP_gtr, xP_geq, xP_max2, xP_min2, xR_eql, xR_neq, Nat.zero_add, Nat.add_zero, Nat.reduceAdd, List.getD_cons_zero, List.getD_cons_succ, xIf_true, xIf_false, FA_23_0, FA_23_1, FA_23_2, FA_23_3, FA_23_4, FA_32_0, FA_32_1, FA_32_2, FA_63_0, FA_63_1, FA_63_2, FA_63_3, FA_80_0, FA_80_1, FA_80_2, FA_85_0, FA_85_1, FA_85_2, LEN_24, LEN_25, LEN_30, LEN_33, LEN_58, LEN_82, LEN_134]
    refine ⟨?_, hkd⟩
    rw [if_pos k1, m0, ← div_lt h0, show ((8 : Int) * 1).toNat = 8 from rfl]
    simp
  · rw [s2]
    rw [wrap64 (by omega) (by omega)]
    refine (shl_small (n := 16) (by omega)).2 ?_
    try simp only [xP_nil, xP_pick, xP_func, xP_not, xP_add, xP_sub, xP_mul, xP_lss, xP_leq, xP_gtr, xP_geq, xP_max2, xP_min2, xR_eql, xR_neq, Nat.zero_add, Nat.add_zero, Nat.reduceAdd, List.getD_cons_zero, List.getD_cons_succ, xIf_true, xIf_false, FA_23_0, FA_23_1, FA_23_2, FA_23_3, FA_23_4, FA_32_0, FA_32_1, FA_32_2, FA_63_0, FA_63_1, FA_63_2, FA_63_3, FA_80_0, FA_80_1, FA_80_2, FA_85_0, FA_85_1, FA_85_2, LEN_24, LEN_25, LEN_30, LEN_33, LEN_58, LEN_82, LEN_134]
    refine ⟨?_, hkd⟩
    rw [if_pos k1, m0, ← div_lt h0, show ((8 : Int) * 2).toNat = 16 from rfl]
    simp
  · rw [s4]
    rw [wrap64 (by omega) (by omega)]
    refine (shl_small (n := 32) (by omega)).2 ?_
    try simp only [xP_nil, xP_pick, xP_func, xP_not, xP_add, xP_sub, xP_mul, xP_lss, xP_leq, xP_gtr, xP_geq, xP_max2, xP_min2, xR_eql, xR_neq, Nat.zero_add, Nat.add_zero, Nat.reduceAdd, List.getD_cons_zero, List.getD_cons_succ, xIf_true, xIf_false, FA_23_0, FA_23_1, FA_23_2, FA_23_3, FA_23_4, FA_32_0, FA_32_1, FA_32_2, FA_63_0, FA_63_1, FA_63_2, FA_63_3, FA_80_0, FA_80_1, FA_80_2, FA_85_0, FA_85_1, FA_85_2, LEN_24, LEN_25, LEN_30, LEN_33, LEN_58, LEN_82, LEN_134]
    refine ⟨?_, hkd⟩
    rw [if_pos k1, m0, ← div_lt h0, show ((8 : Int) * 4).toNat = 32 from rfl]
    simp
  · refine ⟨fun s0 => ⟨fun m0 => ⟨by simp [k1, k2, s0, m0], hk1⟩, fun m0 => ⟨by simp [k1, k2, m0], hk1⟩⟩, fun s0 => ⟨by simp [k1, k2, s0], hk1⟩⟩
  · refine ⟨fun s0 => ⟨fun h5 => ⟨fun m0 => ⟨?_, hk1⟩, fun m0 => ⟨?_, hk1⟩⟩, fun h5 => ⟨?_, hk1⟩⟩, fun s0 => ⟨?_, hk1⟩⟩
    · rw [if_neg k1, if_pos k3]
      congr 1
      rw [Bool.eq_iff_iff]
      simp
      omega
    · rw [if_neg k1, if_pos k3]
      congr 1
      symm
      simp
      omega
    · rw [if_neg k1, if_pos k3]
      congr 1
      symm
      simp
      omega
    · rw [if_neg k1, if_pos k3]
      congr 1
      symm
      simp
      omega
def firstWrong (fs : List GFd) : Int := if fs.findIdx (fun f => !f.right) < fs.length then (fs.findIdx (fun f => !f.right) : Int) else -1
theorem dwrong_ok {fs : List GFd} {v : Value} {w : World} (hsl : SlT w encF v fs) (hlen : fs.length ≤ 1000000) : Gives Tryd.prog 49 #[v] w fun u w' => u = .int .i64 (firstWrong fs) ∧ Kept [] w w' := by
  refine C_staveref1_RightFields ?_
  unfold S_staveref1_RightFields
  obtain ⟨a, c, rfl, hc, hr⟩ := hsl
  have hsl : SlT w encF (.slice a fs.length c) fs := ⟨a, c, rfl, hc, hr⟩
  try simp only [xP_nil, xP_pick, xP_func, xP_not, xP_add, xP_sub, xP_mul, xP_lss, xP_leq, xP_gtr, xP_geq, xP_max2, xP_min2, xR_eql, xR_neq, Nat.zero_add, Nat.add_zero, Nat.reduceAdd, List.getD_cons_zero, List.getD_cons_succ, xIf_true, xIf_false, FA_23_0, FA_23_1, FA_23_2, FA_23_3, FA_23_4, FA_32_0, FA_32_1, FA_32_2, FA_63_0, FA_63_1, FA_63_2, FA_63_3, FA_80_0, FA_80_1, FA_80_2, FA_85_0, FA_85_1, FA_85_2, LEN_24, LEN_25, LEN_30, LEN_33, LEN_58, LEN_82, LEN_134]
  refine xLoop_of (fun vs w' => ∃ i : Nat, vs = [.int .i64 i] ∧ i ≤ fs.length ∧ (∀ j, j < i → ∀ h, fs[j]? = some h → h.right = true) ∧ Kept [] w w') (fun vs _ => match vs with | [.int _ k] => fs.length - k.toNat | _ => 0) ⟨0, rfl, by omega, by omega, Kept.refl _ _⟩ ?_
  rintro _ _ w1 ⟨i, rfl, hi, hbef, hk1⟩
  simp only [xP_nil, xP_pick, xP_func, xP_not, xP_add, xP_sub, xP_mul, xP_lss, xP_leq, xP_gtr, xP_geq, xP_max2, xP_min2, xR_eql, xR_neq, Nat.zero_add, Nat.add_zero, Nat.reduceAdd, List.getD_cons_zero, List.getD_cons_succ, xIf_true, xIf_false, FA_23_0, FA_23_1, FA_23_2, FA_23_3, FA_23_4, FA_32_0, FA_32_1, FA_32_2, FA_63_0, FA_63_1, FA_63_2, FA_63_3, FA_80_0, FA_80_1, FA_80_2, FA_85_0, FA_85_1, FA_85_2, LEN_24, LEN_25, LEN_30, LEN_33, LEN_58, LEN_82, LEN_134, xIf_dec]
  unfold firstWrong
  refine ⟨fun hlt => ?_, fun hge => ?_⟩
  · have hlt' : i < fs.length := by omega
    refine (rowF.get hsl hk1 hlt').2 ?_
    refine xE_alloc Z_23 fun w3 hb3 hk3 hz3 => ?_
    refine xE_storeN (l1 := []) (l2 := [.int .i64 0, .int .i64 0, .int .i64 0, .int .i64 0, .int .i64 0]) (l3 := []) SZ_23 hb3 rfl rfl rfl (encF_cells fs[i]) fun w4 hb4 hk4 hz4 => ?_
    have hb4' : Blk w4 w1.heap.size 23 (encF fs[i]) := by simpa [Value.cells, vF] using hb4
    have hk14 : Kept [] w1 w4 := hk3.trans hk4 (by simp) (by simp)
    obtain ⟨L0, L1, L2, L3, L4, L5⟩ := ldF hb4'
    simp only [L5]
    refine xE_call CF_24 dright_ok ?_
    rintro _ w5 ⟨rfl, hk5⟩
    have hk15 := (hk1.then hk14 (by simp)).then hk5 (by simp)
    simp only [xP_nil, xP_pick, xP_func, xP_not, xP_add, xP_sub, xP_mul, xP_lss, xP_leq, xP_gtr, xP_geq, xP_max2, xP_min2, xR_eql, xR_neq, Nat.zero_add, Nat.add_zero, Nat.reduceAdd, List.getD_cons_zero, List.getD_cons_succ, xIf_true, xIf_false, FA_23_0, FA_23_1, FA_23_2, FA_23_3, FA_23_4, FA_32_0, FA_32_1, FA_32_2, FA_63_0, FA_63_1, FA_63_2, FA_63_3, FA_80_0, FA_80_1, FA_80_2, FA_85_0, FA_85_1, FA_85_2, LEN_24, LEN_25, LEN_30, LEN_33, LEN_58, LEN_82, LEN_134, xIf_bool]
    refine ⟨fun hp => ?_, fun hp => ?_⟩
    · have : fs.findIdx (fun f => !f.right) = i := (List.findIdx_eq hlt').2 ⟨hp, fun j hj => by rw [hbef j hj _ (List.getElem?_eq_getElem (by omega))]; rfl⟩
      rw [this, if_pos hlt']
      exact ⟨rfl, hk15⟩
    · rw [wrap64 (by omega) (by omega)]
      refine ⟨⟨i + 1, rfl, hlt', ?_, hk15⟩, by omega⟩
      intro j hj h hh
      by_cases hji : j < i
      · exact hbef j hji h hh
      · obtain rfl : j = i := by omega
        rw [List.getElem?_eq_getElem hlt'] at hh
        cases hh
        simpa using hp
  · have : fs.findIdx (fun f => !f.right) = fs.length := List.findIdx_eq_length_of_false (fun h hm => by
      obtain ⟨j, hj, rfl⟩ := List.getElem_of_mem hm
      rw [hbef j (by omega) _ (List.getElem?_eq_getElem hj)]; rfl)
    rw [this, if_neg (by omega)]
    exact ⟨rfl, hk1⟩

theorem dfits_ok {f : GFd} {v : GVl} {x : RawV} {w : World} (hv : IsV w x v) (hlen : v.l.length ≤ 9223372036854775806) :
    Gives Tryd.prog 50 #[vF f, vV x] w fun u w' => u = .bool (f.fits v) ∧ Kept [] w w' := by
  refine C_staveref1_fits ?_
  unfold S_staveref1_fits
  refine xE_box fun w1 hb1 hk1 hz1 => ?_
  refine xE_box fun w2 hb2 hk2 hz2 => ?_
  have hk : Kept [] w w2 := hk1.then hk2 (by simp)
  have hb1' := hb1.kept hk2 (by simp)
  generalize hB : w.heap.size = b at *
  generalize hB1 : w1.heap.size = b2 at *
  obtain ⟨L0, L1, L2, L3, L4, L5⟩ := ldF (f := f) hb1'
  obtain ⟨V0, V1, V2, V3⟩ := ldV (x := x) hb2
  obtain ⟨e1, e2, hsl⟩ := hv
  have hsl2 := hsl.kept0 hk
  obtain ⟨a, c, elv, hc, hrow⟩ := hsl2
  have hsl2 : SlT w2 encS x.lv v.l := ⟨a, c, elv, hc, hrow⟩
  simp only [xP_nil, xP_pick, xP_func, xP_not, xP_add, xP_sub, xP_mul, xP_lss, xP_leq, xP_gtr, xP_geq, xP_max2, xP_min2, xR_eql, xR_neq, Nat.zero_add, Nat.add_zero, Nat.reduceAdd, List.getD_cons_zero, List.getD_cons_succ, xIf_true, xIf_false, FA_23_0, FA_23_1, FA_23_2, FA_23_3, FA_23_4, FA_32_0, FA_32_1, FA_32_2, FA_63_0, FA_63_1, FA_63_2, FA_63_3, FA_80_0, FA_80_1, FA_80_2, FA_85_0, FA_85_1, FA_85_2, LEN_24, LEN_25, LEN_30, LEN_33, LEN_58, LEN_82, LEN_134, V0, V1, V2, L0, L2, L3, elv, e1, e2, xP_lenS STR, xR_eqlStr, xIf_dec]
  have hE : (ByteArray.mk #[]) = strEmpty := rfl
  have h0l : ((v.l.length : Int) = 0) ↔ v.l = [] := by rw [← List.length_eq_zero_iff]; omega
  refine ⟨fun k1 => ⟨fun a => ⟨fun b => ⟨fun c => ⟨?_, hk⟩, fun c => ⟨?_, hk⟩⟩, fun b => ⟨?_, hk⟩⟩, fun a => ⟨?_, hk⟩⟩, fun k1 => ⟨fun k2 => ⟨fun a => ⟨fun b => ⟨fun c => ⟨?_, hk⟩, fun c => ⟨?_, hk⟩⟩, fun b => ⟨?_, hk⟩⟩, fun a => ⟨?_, hk⟩⟩, fun k2 => ?_⟩⟩
  · simp [GFd.fits, GFd.isIn, k1, a, b, c, h0l, ← hE]
    cases v.l <;> rfl
  · simp [GFd.fits, GFd.isIn, k1, ← hE, c]
  · simp [GFd.fits, GFd.isIn, k1, b]
  · simp [GFd.fits, GFd.isIn, k1, a]
  · simp [GFd.fits, GFd.isIn, k2, a, b, c, h0l]
    cases v.l <;> rfl
  · simp [GFd.fits, GFd.isIn, k2, c]
  · simp [GFd.fits, GFd.isIn, k2, b]
  · simp [GFd.fits, GFd.isIn, k2, a]
  have ef : f.fits v = (f.isIn v.l.length && !(v.l.any fun s => decide (f.most < s.size)) && !(!decide (v.n = 0)) && !(!decide (v.s = strEmpty))) := by
    unfold GFd.fits
    rw [if_neg k1, if_neg k2]
  refine xLoop_of (fun vs w' => ∃ i : Nat, vs = [.int .i64 i] ∧ i ≤ v.l.length ∧ (∀ j, j < i → ∀ h, v.l[j]? = some h → (h.size : Int) ≤ f.most) ∧ w2 = w') (fun vs _ => match vs with | [.int _ k] => v.l.length - k.toNat | _ => 0) ⟨0, rfl, by omega, by omega, rfl⟩ ?_
  rintro _ _ _ ⟨i, rfl, hi, hbef, rfl⟩
  simp only [xP_nil, xP_pick, xP_func, xP_not, xP_add, xP_sub, xP_mul, xP_lss, xP_leq, xP_gtr, xP_geq, xP_max2, xP_min2, xR_eql, xR_neq, Nat.zero_add, Nat.add_zero, Nat.reduceAdd, List.getD_cons_zero, List.getD_cons_succ, xIf_true, xIf_false, FA_23_0, FA_23_1, FA_23_2, FA_23_3, FA_23_4, FA_32_0, FA_32_1, FA_32_2, FA_63_0, FA_63_1, FA_63_2, FA_63_3, FA_80_0, FA_80_1, FA_80_2, FA_85_0, FA_85_1, FA_85_2, LEN_24, LEN_25, LEN_30, LEN_33, LEN_58, LEN_82, LEN_134, xIf_dec]
  refine ⟨fun hlt => ?_, fun hge => ?_⟩
  · have hlt' : i < v.l.length := by omega
    rw [← elv]
    refine (rowS.get hsl2 (Kept.refl _ _) hlt').2 ?_
    simp only [xP_lenS STR, xP_nil, xP_pick, xP_func, xP_not, xP_add, xP_sub, xP_mul, xP_lss, xP_leq, xP_gtr, xP_geq, xP_max2, xP_min2, xR_eql, xR_neq, Nat.zero_add, Nat.add_zero, Nat.reduceAdd, List.getD_cons_zero, List.getD_cons_succ, xIf_true, xIf_false, FA_23_0, FA_23_1, FA_23_2, FA_23_3, FA_23_4, FA_32_0, FA_32_1, FA_32_2, FA_63_0, FA_63_1, FA_63_2, FA_63_3, FA_80_0, FA_80_1, FA_80_2, FA_85_0, FA_85_1, FA_85_2, LEN_24, LEN_25, LEN_30, LEN_33, LEN_58, LEN_82, LEN_134, L4, xIf_dec]
    refine ⟨fun hp => ⟨?_, hk⟩, fun hp => ?_⟩
    · rw [ef]
      have : (v.l.any fun s => decide (f.most < s.size)) = true := List.any_eq_true.2 ⟨_, List.getElem_mem hlt', by simpa using hp⟩
      rw [this]
      simp
    · rw [wrap64 (by omega) (by omega)]
      refine ⟨⟨i + 1, rfl, hlt', ?_, trivial⟩, by omega⟩
      intro j hj h hh
      by_cases hji : j < i
      · exact hbef j hji h hh
      · obtain rfl : j = i := by omega
        rw [List.getElem?_eq_getElem hlt'] at hh
        cases hh
        omega
  · have hany : (v.l.any fun s => decide (f.most < s.size)) = false := by
      rw [List.any_eq_false]
      intro s hs
      obtain ⟨j, hj, rfl⟩ := List.getElem_of_mem hs
      have := hbef j (by omega) _ (List.getElem?_eq_getElem hj)
      simp
      omega
    rw [ef, hany]
    simp only [V0, V1, V2, L2, L3, elv, e1, e2, xP_nil, xP_pick, xP_func, xP_not, xP_add, xP_sub, xP_mul, xP_lss, xP_leq, xP_gtr, xP_geq, xP_max2, xP_min2, xR_eql, xR_neq, Nat.zero_add, Nat.add_zero, Nat.reduceAdd, List.getD_cons_zero, List.getD_cons_succ, xIf_true, xIf_false, FA_23_0, FA_23_1, FA_23_2, FA_23_3, FA_23_4, FA_32_0, FA_32_1, FA_32_2, FA_63_0, FA_63_1, FA_63_2, FA_63_3, FA_80_0, FA_80_1, FA_80_2, FA_85_0, FA_85_1, FA_85_2, LEN_24, LEN_25, LEN_30, LEN_33, LEN_58, LEN_82, LEN_134, xR_eqlStr, xIf_dec]
    refine ⟨fun a => ⟨fun b => ⟨fun c => ⟨?_, hk⟩, fun c => ⟨?_, hk⟩⟩, fun b => ⟨?_, hk⟩⟩, fun a => ⟨?_, hk⟩⟩
    · simp [GFd.isIn, a, b, c, ← hE]
    · simp [c]
    · simp [GFd.isIn, b]
    · simp [GFd.isIn, a]
end Go.Proofs.YtclojjiiiejfpaaDoor
