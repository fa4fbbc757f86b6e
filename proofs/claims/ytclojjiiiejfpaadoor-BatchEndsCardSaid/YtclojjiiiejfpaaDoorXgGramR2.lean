import Derived.Test.YtclojjiiiejfpaaDoorXgGramR1
import Derived.Test.YtclojjiiiejfpaaDoorXB
namespace Go.Proofs.YtclojjiiiejfpaaDoor
set_option linter.unusedSimpArgs false
set_option linter.unusedVariables false
set_option maxRecDepth 100000
attribute [local irreducible] Go.X.xE
open Go Go.X Go.RowKit

/-! ## The document's own grammar: what is written -/
theorem src_slT {v : Value} {l : List UInt8} {w : World} (h : SlT w encB v l) : Src Tryd.prog 1 25 v l.length (l.flatMap encB) w := Src.ofSlT UB h encB_len encB_one
theorem Fresh.slT {w w' : World} {v : Value} {l : List UInt8} (h : Fresh w w' v l) : SlT w' encB v l := by
  obtain ⟨F, ho, _, _⟩ := h
  exact ho.slT encB_len (by omega)
theorem Fresh.keptI {w w' : World} {v : Value} {l : List UInt8} (h : Fresh w w' v l) : Kept [] w w' := by
  obtain ⟨F, _, _, hk⟩ := h; exact hk
theorem Fresh.after {w0 w w' : World} {v : Value} {l : List UInt8} (h : Fresh w w' v l) (hk : Kept [] w0 w) : Fresh w0 w' v l := by
  obtain ⟨F, h1, h2, h3⟩ := h
  exact ⟨F, h1, fun g hg => Nat.le_trans hk.size (h2 g hg), hk.then h3 (by simp)⟩

theorem dnum_ok {b : List UInt8} {v : Value} {n k : Nat} {w : World} (hv : SlT w encB v b) (hb : b.length ≤ 1000000000000) (hk8 : k ≤ 8) :
    Gives Tryd.prog 51 #[v, .int .u64 n, .int .i64 k] w fun u w' => Fresh w w' u (b ++ lowB n k) := by
  refine C_staveref1_Num ?_
  unfold S_staveref1_Num
  refine xE_slice0 EL_25 fun w1 ho1 hk1 hz1 => ?_
  refine xE_appendSrc EL_25 ho1 (src_slT (hv.kept0 hk1)) (by omega) (by unfold maxLen; omega) fun u2 w2 F2 ho2 hk2 hf2 _ => ?_
  have hF2 : ∀ g ∈ F2, w.heap.size ≤ g := fun g hg => (hf2 g hg).elim (fun h => by simp at h; omega) (fun h => by omega)
  have hk02 : Kept [] w w2 := hk1.then hk2 (by simp)
  refine xLoop_of (fun vs w' => ∃ (i : Nat) (u : Value) (F : List Nat), vs = [u, .int .i64 i] ∧ i ≤ k ∧ Own w' 5 1 u (b ++ lowB n i).length ((b ++ lowB n i).flatMap encB) F ∧ (∀ g ∈ F, w.heap.size ≤ g) ∧ Kept [] w w')
    (fun vs _ => match vs with | [_, .int _ i] => k - i.toNat | _ => 0) ⟨0, u2, F2, rfl, by omega, by simpa [lowB] using ho2, hF2, hk02⟩ ?_
  rintro _ _ w3 ⟨i, u3, F3, rfl, hi, ho3, hF3, hk3⟩
  simp only [xP_nil, xP_pick, xP_func, xP_not, xP_add, xP_sub, xP_mul, xP_lss, xP_leq, xP_gtr, xP_geq, xP_max2, xP_min2, xR_eql, xR_neq, Nat.zero_add, Nat.add_zero, Nat.reduceAdd, List.getD_cons_zero, List.getD_cons_succ, xIf_true, xIf_false, FA_23_0, FA_23_1, FA_23_2, FA_23_3, FA_23_4, FA_32_0, FA_32_1, FA_32_2, FA_63_0, FA_63_1, FA_63_2, FA_63_3, FA_80_0, FA_80_1, FA_80_2, FA_85_0, FA_85_1, FA_85_2, LEN_24, LEN_25, LEN_30, LEN_33, LEN_58, LEN_82, LEN_134, xIf_dec]
  refine ⟨fun hlt => ?_, fun hge => ?_⟩
  · have hlt' : i < k := by omega
    have h0 : (0 : Int) ≤ 8 * i := by omega
    rw [wrap64 (by omega) (by omega)]
    refine (xP_shr h0).2 ?_
    have e2 : min (8 * (i : Int)).toNat IntKind.u64.bits = 8 * i := by
      rw [Nat.min_eq_left]
      · omega
      · show _ ≤ 64
        omega
    rw [e2]
    simp only [xP_conv INT_92 INT_5, wrapU8, low_cell]
    refine xE_buildSlice EL_25 [.int .u8 ((UInt8.ofNat ((n : Int) / 2 ^ (8 * i) % 256).toNat).toNat : Nat)] rfl rfl (by simp [Value.cells]) (by omega) (by omega) fun w4 hb4 hk4 hz4 => ?_
    have hat : At w4 w3.heap.size 0 ([UInt8.ofNat ((n : Int) / 2 ^ (8 * i) % 256).toNat].flatMap encB) := hb4.at
    have hlen : (b ++ lowB n i).length = b.length + i := by rw [List.length_append, lowB_len]
    refine xE_append (m := 1) EL_25 (ho3.kept hk4 (by simp)) hat rfl (by simp [encB]; rfl) (by omega) (by unfold maxLen; omega) (by omega) fun u5 w5 F5 ho5 hk5 hF5 _ => ?_
    have hz3 := hk3.size
    have hz4' := hk4.size
    rw [wrap64 (by omega) (by omega)]
    refine ⟨⟨i + 1, u5, F5, rfl, hlt', ?_, fun g hg => (hF5 g hg).elim (hF3 g) (fun h => by omega), (hk3.then hk4 (by simp)).then hk5 (fun g hg => .inr (hF3 g hg))⟩, by omega⟩
    rw [lowB_succ, ← List.append_assoc, List.flatMap_append, List.length_append]
    exact ho5
  · obtain rfl : i = k := by omega
    exact ⟨F3, ho3, hF3, hk3⟩
theorem dtext_ok {b : List UInt8} {v : Value} {s : ByteArray} {w : World} (hv : SlT w encB v b) (hb : b.length ≤ 100000000000) (hs : s.size ≤ 100000000000) :
    Gives Tryd.prog 52 #[v, .string s] w fun u w' => Fresh w w' u (b ++ textB s) := by
  refine C_staveref1_text ?_
  unfold S_staveref1_text
  simp only [xP_lenS STR]
  refine (xP_conv INT_3 INT_92).2 ?_
  rw [wrapU64 (by omega) (by omega)]
  refine xE_call CF_51 (dnum_ok (k := 2) hv (by omega) (by omega)) ?_
  rintro u1 w1 ⟨F1, ho1, hF1, hk1⟩
  have hl : (b ++ lowB s.size 2).length = b.length + 2 := by rw [List.length_append, lowB_len]
  refine xE_appendSrc EL_25 ho1 (Src.ofStr STR s) (by omega) (by unfold maxLen; omega) fun u2 w2 F2 ho2 hk2 hf2 _ => ?_
  have hz1 := hk1.size
  refine ⟨F2, ?_, fun g hg => (hf2 g hg).elim (hF1 g) (fun h => by omega), hk1.then hk2 (fun g hg => .inr (hF1 g hg))⟩
  rw [textB, ← List.append_assoc, List.flatMap_append, List.length_append, bytesOf_len]
  exact ho2

def DPutPost (w : World) (fs : List GFd) (vs : List GVl) (r : Value) (w' : World) : Prop := match gramPut fs vs with
  | .ok bs => ∃ u, r = .tuple #[u, .int .i64 0, .int .i64 0] ∧ Fresh w w' u bs
  | .error (i, k) => r = .tuple #[.slice none 0 0, .int .i64 k, .int .i64 i] ∧ Kept [] w w'
theorem own_slT {w : World} {v : Value} {B : List UInt8} {F : List Nat} (h : Own w 5 1 v B.length (B.flatMap encB) F) : SlT w encB v B := h.slT encB_len (by omega)
theorem right_lo {f : GFd} (h : f.right = true) : 0 ≤ f.lo := by
  unfold GFd.right at h
  simp at h
  omega

theorem dput_ok {fs : List GFd} {vs : List GVl} {raws : List RawV} {v u : Value} {w : World} (hf : SlT w encF v fs) (hs : small fs) (hfl : fs.length ≤ 1000) (hv : SlT w encV u raws) (hvl : raws.length = vs.length) (hvv : ∀ (i : Nat) x y, raws[i]? = some x → vs[i]? = some y → IsV w x y) (hvb : vs.length ≤ 1000000) (hll : ∀ y ∈ vs, y.l.length ≤ 9223372036854775806) :
    Gives Tryd.prog 25 #[v, u] w fun r w' => DPutPost w fs vs r w' := by
  refine C_staveref1_PutFields ?_
  unfold S_staveref1_PutFields
  refine xE_call CF_49 (dwrong_ok hf (by omega)) ?_
  rintro _ w1 ⟨rfl, hk1⟩
  unfold DPutPost gramPut firstWrong
  by_cases hw : fs.findIdx (fun f => !f.right) < fs.length
  · rw [if_pos hw, if_pos hw]
    have e1 : (0 : Int) ≤ (fs.findIdx (fun f => !f.right) : Nat) := by omega
    simp only [xP_nil, xP_pick, xP_func, xP_not, xP_add, xP_sub, xP_mul, xP_lss, xP_leq, xP_gtr, xP_geq, xP_max2, xP_min2, xR_eql, xR_neq, Nat.zero_add, Nat.add_zero, Nat.reduceAdd, List.getD_cons_zero, List.getD_cons_succ, xIf_true, xIf_false, FA_23_0, FA_23_1, FA_23_2, FA_23_3, FA_23_4, FA_32_0, FA_32_1, FA_32_2, FA_63_0, FA_63_1, FA_63_2, FA_63_3, FA_80_0, FA_80_1, FA_80_2, FA_85_0, FA_85_1, FA_85_2, LEN_24, LEN_25, LEN_30, LEN_33, LEN_58, LEN_82, LEN_134, e1, decide_true]
    exact ⟨rfl, hk1⟩
  rw [if_neg hw, if_neg hw]
  have e1 : ¬ (0 : Int) ≤ -1 := by omega
  obtain ⟨fa, fc, rfl, hfc, hfr⟩ := hf
  have hf : SlT w encF (.slice fa fs.length fc) fs := ⟨fa, fc, rfl, hfc, hfr⟩
  obtain ⟨va, vc, rfl, hvc, hvr⟩ := hv
  have hv : SlT w encV (.slice va raws.length vc) raws := ⟨va, vc, rfl, hvc, hvr⟩
  simp only [xP_nil, xP_pick, xP_func, xP_not, xP_add, xP_sub, xP_mul, xP_lss, xP_leq, xP_gtr, xP_geq, xP_max2, xP_min2, xR_eql, xR_neq, Nat.zero_add, Nat.add_zero, Nat.reduceAdd, List.getD_cons_zero, List.getD_cons_succ, xIf_true, xIf_false, FA_23_0, FA_23_1, FA_23_2, FA_23_3, FA_23_4, FA_32_0, FA_32_1, FA_32_2, FA_63_0, FA_63_1, FA_63_2, FA_63_3, FA_80_0, FA_80_1, FA_80_2, FA_85_0, FA_85_1, FA_85_2, LEN_24, LEN_25, LEN_30, LEN_33, LEN_58, LEN_82, LEN_134, e1, decide_false, xIf_dec]
  refine ⟨fun hne => ?_, fun heq => ?_⟩
  · rw [if_neg (by intro h; apply hne; omega)]
    rw [hvl]
    exact ⟨rfl, hk1⟩
  have hlen : raws.length = fs.length := by
    rcases Nat.lt_trichotomy raws.length fs.length with h | h | h
    · exact absurd (show ((raws.length : Nat) : Int) ≠ (fs.length : Nat) by omega) heq
    · exact h
    · exact absurd (show ((raws.length : Nat) : Int) ≠ (fs.length : Nat) by omega) heq
  rw [if_pos (by omega)]
  have hall : ∀ f ∈ fs, f.right = true := fun f hm => by
    cases hr : f.right with
    | true => rfl
    | false => exact absurd (List.findIdx_lt_length_of_exists ⟨f, hm, by simp [hr]⟩) hw
  refine xLoop_of (fun ls w' => ∃ (i : Nat) (o : Value) (B : List UInt8), ls = [o, .int .i64 i] ∧ i ≤ fs.length ∧ ((i = 0 ∧ o = .slice none 0 0 ∧ B = []) ∨ Fresh w w' o B) ∧ SlT w' encB o B ∧ B.length ≤ i * 16711936 ∧ Kept [] w w' ∧ putRest 0 fs vs = (putRest i (fs.drop i) (vs.drop i)).map (B ++ ·))
    (fun ls _ => match ls with | [_, .int _ i] => fs.length - i.toNat | _ => 0) ⟨0, .slice none 0 0, [], rfl, by omega, .inl ⟨rfl, rfl, rfl⟩, SlT.nil_ _ _, by simp, hk1, by simp [Except.map]; cases putRest 0 fs vs <;> rfl⟩ ?_
  rintro _ _ w2 ⟨i, o, B, rfl, hi, hfr2, ho, hB, hk2, hput⟩
  simp only [xP_nil, xP_pick, xP_func, xP_not, xP_add, xP_sub, xP_mul, xP_lss, xP_leq, xP_gtr, xP_geq, xP_max2, xP_min2, xR_eql, xR_neq, Nat.zero_add, Nat.add_zero, Nat.reduceAdd, List.getD_cons_zero, List.getD_cons_succ, xIf_true, xIf_false, FA_23_0, FA_23_1, FA_23_2, FA_23_3, FA_23_4, FA_32_0, FA_32_1, FA_32_2, FA_63_0, FA_63_1, FA_63_2, FA_63_3, FA_80_0, FA_80_1, FA_80_2, FA_85_0, FA_85_1, FA_85_2, LEN_24, LEN_25, LEN_30, LEN_33, LEN_58, LEN_82, LEN_134, xIf_dec]
  refine ⟨fun hlt => ?_, fun hge => ?_⟩
  · have hif : i < fs.length := by omega
    have hir : i < raws.length := by omega
    have hiv : i < vs.length := by omega
    have hrt := hall _ (List.getElem_mem hif)
    have ed : putRest i (fs.drop i) (vs.drop i) = if fs[i].fits vs[i] then (putRest (i + 1) (fs.drop (i + 1)) (vs.drop (i + 1))).map (fs[i].written vs[i] ++ ·) else .error (i, 2) := by
      rw [List.drop_eq_getElem_cons hif, List.drop_eq_getElem_cons hiv]
      rfl
    have hb0 : B.length ≤ 100000000000 := by have : i * 16711936 ≤ 1000 * 16711936 := Nat.mul_le_mul_right _ (by omega); omega
    refine xJoin_of (fun ls w' => fs[i].fits vs[i] = true ∧ ∃ o', ls = [o'] ∧ Fresh w w' o' (B ++ fs[i].written vs[i])) ?_ ?_
    · refine (rowF.get hf hk2 hif).2 ?_
      refine xE_alloc Z_23 fun w3 hb3 hk3 hz3 => ?_
      refine xE_storeN (l1 := []) (l2 := [.int .i64 0, .int .i64 0, .int .i64 0, .int .i64 0, .int .i64 0]) (l3 := []) SZ_23 hb3 rfl rfl rfl (encF_cells fs[i]) fun w4 hb4 hk4 hz4 => ?_
      have hb4' : Blk w4 w2.heap.size 23 (encF fs[i]) := by simpa [Value.cells, vF] using hb4
      have hk24 : Kept [] w2 w4 := hk3.trans hk4 (by simp) (by simp)
      have hk04 := hk2.then hk24 (by simp)
      obtain ⟨L0, L1, L2, L3, L4, L5⟩ := ldF (blk_drew hb4')
      simp only [L5]
      refine (rowV.get hv hk04.drew hir).2 ?_
      have hiv' := (hvv i _ _ (List.getElem?_eq_getElem hir) (List.getElem?_eq_getElem hiv)).kept0 hk04.drew
      refine xE_call CF_50 (dfits_ok hiv' (hll _ (List.getElem_mem hiv))) ?_
      rintro _ w5 ⟨rfl, hk5⟩
      have hk45 : Kept [] w4 w5 := (Kept.refl _ _).drew.then hk5 (by simp)
      have hk05 : Kept [] w w5 := hk04.then hk45 (by simp)
      have ho5 : SlT w5 encB o B := ho.kept0 (hk24.then hk45 (by simp))
      have hb5 := hb4'.kept hk45 (by simp)
      have hiv5 := (hvv i _ _ (List.getElem?_eq_getElem hir) (List.getElem?_eq_getElem hiv)).kept0 hk05
      generalize hx : raws[i] = x at *
      have hfl : ∀ (f : Nat) (X : TypeId) (w' : World) (uu : Value) (K : Value → Prop), Kept [] w w' → fieldB Tryd.prog 32 f f = true → oneB Tryd.prog X = true → (encV x)[f]? = some uu → K uu →
          (xP Tryd.prog (sIA 33 (.slice va raws.length vc) (.int .i64 (i : Nat))) fun v => xP Tryd.prog (sFA 32 v f) fun c => xR Tryd.prog (sLoad X c) w' K) :=
        fun f X w' uu K hk' hB' hX hu hK => (rowV.fld hv hk' hir (K := K) (u := uu) hB' hX (by rw [hx]; exact hu)).2 hK
      simp only [xP_nil, xP_pick, xP_func, xP_not, xP_add, xP_sub, xP_mul, xP_lss, xP_leq, xP_gtr, xP_geq, xP_max2, xP_min2, xR_eql, xR_neq, Nat.zero_add, Nat.add_zero, Nat.reduceAdd, List.getD_cons_zero, List.getD_cons_succ, xIf_true, xIf_false, FA_23_0, FA_23_1, FA_23_2, FA_23_3, FA_23_4, FA_32_0, FA_32_1, FA_32_2, FA_63_0, FA_63_1, FA_63_2, FA_63_3, FA_80_0, FA_80_1, FA_80_2, FA_85_0, FA_85_1, FA_85_2, LEN_24, LEN_25, LEN_30, LEN_33, LEN_58, LEN_82, LEN_134, xIf_bool]
      refine ⟨fun hno => ?_, fun hyes => ?_⟩
      · simp only [Bool.not_eq_true'] at hno
        rw [hput, ed, if_neg (by simp [hno])]
        exact ⟨rfl, hk05⟩
      · simp only [Bool.not_eq_false'] at hyes
        obtain ⟨N0, N1, N2, N3, N4, N5⟩ := ldF hb5
        obtain ⟨M0, M1, M2, M3, M4, M5⟩ := ldF (blk_drew hb5)
        simp only [N0, xR_eql, xIf_dec]
        obtain ⟨hn, hss, hsl⟩ := hiv5
        have hlo := right_lo hrt
        refine ⟨fun k1 => ?_, fun k1 => ⟨fun k2 => ?_, fun k2 => ⟨fun k3 => ?_, fun k3 => ?_⟩⟩⟩
        · refine hfl 0 _ _ (.int .i64 x.n) _ hk05.drew (by kernel_rfl) ONE_3 rfl ?_
          refine (xP_conv INT_3 INT_92).2 ?_
          simp only [FA_23_1, Nat.add_zero, Nat.zero_add, M1]
          have hn0 : 0 ≤ vs[i].n := by
            have hyes' := hyes
            unfold GFd.fits GFd.isIn at hyes'
            simp [k1] at hyes'
            omega
          obtain ⟨nn, hnn⟩ := Int.eq_ofNat_of_zero_le hn0
          have hn63 : vs[i].n ≤ 9223372036854775807 := by
            have hyes' := hyes
            unfold GFd.fits GFd.isIn at hyes'
            simp [k1] at hyes'
            have := hs _ (List.getElem_mem hif)
            omega
          obtain ⟨k, hk8, hks⟩ : ∃ k : Nat, k ≤ 8 ∧ fs[i].size = k := by
            rcases right_size hrt k1 with h | h | h | h <;> exact ⟨fs[i].size.toNat, by omega, by omega⟩
          rw [hn, wrapU64 hn0 (by omega), hks]
          rw [hnn]
          refine xE_call CF_51 (dnum_ok (n := nn) (ho5.kept0 (kept_drew [] w5)) (by omega) hk8) ?_
          rintro o6 w6 hfr6
          refine ⟨hyes, o6, rfl, ?_⟩
          have ew : fs[i].written vs[i] = lowB (nn : Int) k := by unfold GFd.written; rw [if_pos k1, hks, Int.toNat_natCast, hnn]
          rw [ew]
          exact hfr6.after hk05.drew
        · refine hfl 1 _ _ (.string x.s) _ hk05 (by kernel_rfl) ONE_9 rfl ?_
          rw [hss]
          have hsz := fits_text hrt hyes k2
          refine xE_call CF_52 (dtext_ok ho5 (by omega) (by omega)) ?_
          rintro o6 w6 hfr6
          refine ⟨hyes, o6, rfl, ?_⟩
          have ew : fs[i].written vs[i] = textB vs[i].s := by unfold GFd.written; rw [if_neg k1, if_pos k2]
          rw [ew]
          exact hfr6.after hk05
        · obtain ⟨hl255, hsz⟩ := fits_texts hrt hyes k1 k2
          obtain ⟨la, lc, elv, hlc, hlr⟩ := hsl
          have hsl5 : SlT w5 encS x.lv vs[i].l := ⟨la, lc, elv, hlc, hlr⟩
          refine hfl 2 _ _ x.lv _ hk05 (by kernel_rfl) ONE_30 rfl ?_
          rw [elv]
          simp only [LEN_30]
          refine (xP_conv INT_3 INT_92).2 ?_
          rw [wrapU64 (by omega) (by omega)]
          refine xE_call CF_51 (dnum_ok (k := 1) ho5 (by omega) (by omega)) ?_
          rintro o6 w6 hfr6
          have hk56 := hfr6.keptI
          refine hfl 2 _ _ x.lv _ (hk05.then hk56 (by simp)) (by kernel_rfl) ONE_30 rfl ?_
          rw [elv]
          simp only [LEN_30]
          rw [← elv]
          refine xLoop_of (fun ls w' => ∃ (j : Nat) (o : Value), ls = [o, .int .i64 j] ∧ j ≤ vs[i].l.length ∧ Fresh w5 w' o (B ++ (lowB vs[i].l.length 1 ++ (vs[i].l.take j).flatMap textB)))
            (fun ls _ => match ls with | [_, .int _ j] => vs[i].l.length - j.toNat | _ => 0) ⟨0, o6, rfl, by omega, by simpa using hfr6⟩ ?_
          rintro _ _ w7 ⟨j, o7, rfl, hj, hfr7⟩
          simp only [xP_nil, xP_pick, xP_func, xP_not, xP_add, xP_sub, xP_mul, xP_lss, xP_leq, xP_gtr, xP_geq, xP_max2, xP_min2, xR_eql, xR_neq, Nat.zero_add, Nat.add_zero, Nat.reduceAdd, List.getD_cons_zero, List.getD_cons_succ, xIf_true, xIf_false, FA_23_0, FA_23_1, FA_23_2, FA_23_3, FA_23_4, FA_32_0, FA_32_1, FA_32_2, FA_63_0, FA_63_1, FA_63_2, FA_63_3, FA_80_0, FA_80_1, FA_80_2, FA_85_0, FA_85_1, FA_85_2, LEN_24, LEN_25, LEN_30, LEN_33, LEN_58, LEN_82, LEN_134, xIf_dec]
          have htl := texts_len (m := 65535) (vs[i].l.take j) (fun s hs => hsz s (List.mem_of_mem_take hs))
          have htk : (vs[i].l.take j).length ≤ 255 := by rw [List.length_take]; omega
          have htl2 : (vs[i].l.take j).length * (2 + 65535) ≤ 255 * (2 + 65535) := Nat.mul_le_mul_right _ htk
          refine ⟨fun hltj => ?_, fun hgej => ?_⟩
          · have hltj' : j < vs[i].l.length := by omega
            refine (rowS.get hsl5 hfr7.keptI hltj').2 ?_
            have hsj := hsz _ (List.getElem_mem hltj')
            refine xE_call CF_52 (dtext_ok hfr7.slT (by rw [List.length_append, List.length_append, lowB_len]; omega) (by omega)) ?_
            rintro o8 w8 hfr8
            rw [wrap64 (by omega) (by omega)]
            refine ⟨⟨j + 1, o8, rfl, hltj', ?_⟩, by omega⟩
            have et : B ++ (lowB vs[i].l.length 1 ++ (vs[i].l.take (j + 1)).flatMap textB) = (B ++ (lowB vs[i].l.length 1 ++ (vs[i].l.take j).flatMap textB)) ++ textB vs[i].l[j] := by
              rw [List.take_succ_eq_append_getElem hltj', List.flatMap_append]
              simp
            rw [et]
            exact hfr8.after hfr7.keptI
          · obtain rfl : j = vs[i].l.length := by omega
            refine ⟨hyes, o7, rfl, ?_⟩
            have ew : fs[i].written vs[i] = lowB vs[i].l.length 1 ++ vs[i].l.flatMap textB := by unfold GFd.written; rw [if_neg k1, if_neg k2]
            rw [List.take_length] at hfr7
            rw [ew]
            exact hfr7.after hk05
        · exfalso
          unfold GFd.right at hrt
          simp [k1, k2, k3] at hrt
    · rintro _ _ w6 ⟨hyes, o6, rfl, hfr6⟩
      try simp only [xP_nil, xP_pick, xP_func, xP_not, xP_add, xP_sub, xP_mul, xP_lss, xP_leq, xP_gtr, xP_geq, xP_max2, xP_min2, xR_eql, xR_neq, Nat.zero_add, Nat.add_zero, Nat.reduceAdd, List.getD_cons_zero, List.getD_cons_succ, xIf_true, xIf_false, FA_23_0, FA_23_1, FA_23_2, FA_23_3, FA_23_4, FA_32_0, FA_32_1, FA_32_2, FA_63_0, FA_63_1, FA_63_2, FA_63_3, FA_80_0, FA_80_1, FA_80_2, FA_85_0, FA_85_1, FA_85_2, LEN_24, LEN_25, LEN_30, LEN_33, LEN_58, LEN_82, LEN_134]
      rw [wrap64 (by omega) (by omega)]
      have hwl := written_len hrt hyes
      refine ⟨⟨i + 1, o6, B ++ fs[i].written vs[i], rfl, hif, .inr hfr6, hfr6.slT, by rw [List.length_append]; omega, hfr6.keptI, ?_⟩, by omega⟩
      rw [hput, ed, if_pos hyes]
      cases putRest (i + 1) (fs.drop (i + 1)) (vs.drop (i + 1)) <;> simp [Except.map]
  · obtain rfl : i = fs.length := by omega
    have hnil : fs.drop fs.length = [] := List.drop_length
    rw [hput, hnil]
    simp only [putRest, Except.map]
    rcases hfr2 with ⟨h0, rfl, rfl⟩ | hfr2
    · exact ⟨_, rfl, [], own_nil _ _ _, by simp, hk2⟩
    · exact ⟨o, rfl, by simpa using hfr2⟩
end Go.Proofs.YtclojjiiiejfpaaDoor
