import Derived.Test.YtclojjiiiejfpaaDoorXgGram3
import Derived.Test.YtclojjiiiejfpaaDoorXB
namespace Go.Proofs.YtclojjiiiejfpaaDoor
set_option linter.unusedSimpArgs false
set_option linter.unusedVariables false
set_option maxRecDepth 100000
attribute [local irreducible] Go.X.xE
open Go Go.X

/-! ## Errors -/
theorem IFE : ifaceB Tryd.prog 27 = true := by kernel_rfl
theorem CEN : concB Tryd.prog 39 = true := by kernel_rfl
theorem CFA : concB Tryd.prog 85 = true := by kernel_rfl
def errV (k : Int) : Value := .iface 39 (.int .i64 k)
def faultV (op : ByteArray) (at_ : Int) (e : Value) : Value := .iface 85 (.agg #[.string op, .int .i64 at_, e])
theorem wrap_ok {op : ByteArray} {at_ : Int} {t : TypeId} {e : Value} {w : World} : Gives Tryd.prog 41 #[.string op, .int .i64 at_, .iface t e] w fun u w' => u = faultV op at_ (.iface t e) ∧ w = w' := by
  refine C_fault_Wrap ?_
  unfold S_fault_Wrap
  simp only [xR_eqlI IFE, xIf_false]
  refine (xP_build (cells := #[.string op, .int .i64 at_, .iface t e]) (by kernel_rfl)).2 ?_
  refine (xP_iface CFA).2 ?_
  exact ⟨rfl, rfl⟩
theorem wrapNil_ok {op : ByteArray} {at_ : Int} {w : World} : Gives Tryd.prog 41 #[.string op, .int .i64 at_, .nilIface] w fun u w' => u = .nilIface ∧ w = w' := by
  refine C_fault_Wrap ?_
  unfold S_fault_Wrap
  simp only [xR_eqlN IFE, xIf_true]
  exact ⟨rfl, rfl⟩

theorem written_len {f : GFd} {v : GVl} (hr : f.right = true) (hf : f.fits v = true) : (f.written v).length ≤ 16711936 := by
  unfold GFd.written
  by_cases h1 : f.kind = 1
  · rw [if_pos h1, lowB_len]
    have := right_size hr h1
    omega
  · rw [if_neg h1]
    by_cases h2 : f.kind = 2
    · rw [if_pos h2, textB_len]
      have := fits_text hr hf h2
      omega
    · rw [if_neg h2]
      obtain ⟨hl, hs⟩ := fits_texts hr hf h1 h2
      have htl := texts_len v.l hs
      have htl2 : v.l.length * (2 + 65535) ≤ 255 * (2 + 65535) := Nat.mul_le_mul_right _ hl
      rw [List.length_append, lowB_len]
      omega
theorem rowV : RowB Tryd.prog 33 32 3 encV vV := RowB.agg SL_33 SZ_32 encV_len AGG_32
def opPut : ByteArray := ⟨#[103, 114, 97, 109, 46, 80, 117, 116]⟩
def PutPost (w : World) (fs : List GFd) (vs : List GVl) (r : Value) (w' : World) : Prop := match gramPut fs vs with
  | .ok bs => ∃ u, r = .tuple #[u, .nilIface] ∧ Fresh w w' u bs
  | .error (i, k) => r = .tuple #[.slice none 0 0, faultV opPut i (errV k)] ∧ Kept [] w w'

theorem put_ok {fs : List GFd} {vs : List GVl} {raws : List RawV} {v u : Value} {w : World} (hf : SlT w encF v fs) (hs : small fs) (hfl : fs.length ≤ 1000000) (hv : SlT w encV u raws) (hvl : raws.length = vs.length) (hvv : ∀ (i : Nat) x y, raws[i]? = some x → vs[i]? = some y → IsV w x y) (hvb : vs.length ≤ 1000000) (hll : ∀ y ∈ vs, y.l.length ≤ 9223372036854775806) :
    Gives Tryd.prog 16 #[v, u] w fun r w' => PutPost w fs vs r w' := by
  refine C_gram_Put ?_
  unfold S_gram_Put
  refine xE_call CF_40 (wrong_ok hf (by omega) hs) ?_
  rintro _ w1 ⟨rfl, hk1⟩
  unfold PutPost gramPut
  by_cases hw : fs.findIdx (fun f => !f.right) < fs.length
  · rw [if_pos hw, if_pos hw]
    have e1 : (0 : Int) ≤ (fs.findIdx (fun f => !f.right) : Nat) := by omega
    simp only [xP_nil, xP_pick, xP_func, xP_not, xP_add, xP_sub, xP_mul, xP_lss, xP_leq, xP_gtr, xP_geq, xP_max2, xP_min2, xR_eql, xR_neq, Nat.zero_add, Nat.add_zero, Nat.reduceAdd, List.getD_cons_zero, List.getD_cons_succ, xIf_true, xIf_false, FA_23_0, FA_23_1, FA_23_2, FA_23_3, FA_23_4, FA_32_0, FA_32_1, FA_32_2, FA_63_0, FA_63_1, FA_63_2, FA_63_3, FA_80_0, FA_80_1, FA_80_2, FA_85_0, FA_85_1, FA_85_2, LEN_24, LEN_25, LEN_30, LEN_33, LEN_58, LEN_82, LEN_134, e1, decide_true, xP_iface CEN]
    refine xE_call CF_41 wrap_ok ?_
    rintro _ _ ⟨rfl, rfl⟩
    exact ⟨rfl, hk1⟩
  rw [if_neg hw, if_neg hw]
  have e1 : ¬ (0 : Int) ≤ -1 := by omega
  obtain ⟨fa, fc, rfl, hfc, hfr⟩ := hf
  have hf : SlT w encF (.slice fa fs.length fc) fs := ⟨fa, fc, rfl, hfc, hfr⟩
  obtain ⟨va, vc, rfl, hvc, hvr⟩ := hv
  have hv : SlT w encV (.slice va raws.length vc) raws := ⟨va, vc, rfl, hvc, hvr⟩
  simp only [xP_nil, xP_pick, xP_func, xP_not, xP_add, xP_sub, xP_mul, xP_lss, xP_leq, xP_gtr, xP_geq, xP_max2, xP_min2, xR_eql, xR_neq, Nat.zero_add, Nat.add_zero, Nat.reduceAdd, List.getD_cons_zero, List.getD_cons_succ, xIf_true, xIf_false, FA_23_0, FA_23_1, FA_23_2, FA_23_3, FA_23_4, FA_32_0, FA_32_1, FA_32_2, FA_63_0, FA_63_1, FA_63_2, FA_63_3, FA_80_0, FA_80_1, FA_80_2, FA_85_0, FA_85_1, FA_85_2, LEN_24, LEN_25, LEN_30, LEN_33, LEN_58, LEN_82, LEN_134, e1, decide_false, xIf_dec]
  refine ⟨fun hne => ?_, fun heq => ?_⟩
  · rw [if_neg (by intro h; apply hne; omega)]
    simp only [xP_iface CEN]
    refine xE_call CF_41 wrap_ok ?_
    rintro _ _ ⟨rfl, rfl⟩
    rw [hvl]
    exact ⟨rfl, hk1⟩
  have hlen : raws.length = fs.length := by
    rcases Nat.lt_trichotomy raws.length fs.length with h | h | h
    · exact absurd (show ((raws.length : Nat) : Int) ≠ (fs.length : Nat) by omega) heq
    · exact h
    · exact absurd (show ((raws.length : Nat) : Int) ≠ (fs.length : Nat) by omega) heq
  rw [if_pos (by omega)]
  have hall : ∀ f ∈ fs, f.right = true := fun f hm => by
    cases hr : f.right with
    | true => rfl
    | false => exact absurd (List.findIdx_lt_length_of_exists ⟨f, hm, by simp [hr]⟩) hw
  refine xLoop_of (fun ls w' => ∃ (i : Nat) (o : Value) (F : List Nat) (B : List UInt8), ls = [o, .int .i64 i] ∧ i ≤ fs.length ∧ Own w' 5 1 o B.length (B.flatMap encB) F ∧ B.length ≤ i * 16711936 ∧ (∀ g ∈ F, w.heap.size ≤ g) ∧ Kept [] w w' ∧ putRest 0 fs vs = (putRest i (fs.drop i) (vs.drop i)).map (B ++ ·))
    (fun ls _ => match ls with | [_, .int _ i] => fs.length - i.toNat | _ => 0) ⟨0, .slice none 0 0, [], [], rfl, by omega, own_nil _ _ _, by simp, by simp, hk1, by simp [Except.map]; cases putRest 0 fs vs <;> rfl⟩ ?_
  rintro _ _ w2 ⟨i, o, F, B, rfl, hi, ho, hB, hF, hk2, hput⟩
  simp only [xP_nil, xP_pick, xP_func, xP_not, xP_add, xP_sub, xP_mul, xP_lss, xP_leq, xP_gtr, xP_geq, xP_max2, xP_min2, xR_eql, xR_neq, Nat.zero_add, Nat.add_zero, Nat.reduceAdd, List.getD_cons_zero, List.getD_cons_succ, xIf_true, xIf_false, FA_23_0, FA_23_1, FA_23_2, FA_23_3, FA_23_4, FA_32_0, FA_32_1, FA_32_2, FA_63_0, FA_63_1, FA_63_2, FA_63_3, FA_80_0, FA_80_1, FA_80_2, FA_85_0, FA_85_1, FA_85_2, LEN_24, LEN_25, LEN_30, LEN_33, LEN_58, LEN_82, LEN_134, xIf_dec]
  refine ⟨fun hlt => ?_, fun hge => ?_⟩
  · have hif : i < fs.length := by omega
    have hir : i < raws.length := by omega
    have hiv : i < vs.length := by omega
    refine (rowF.get hf hk2 hif).2 ?_
    refine xE_alloc Z_23 fun w3 hb3 hk3 hz3 => ?_
    refine xE_storeN (l1 := []) (l2 := [.int .i64 0, .int .i64 0, .int .i64 0, .int .i64 0, .int .i64 0]) (l3 := []) SZ_23 hb3 rfl rfl rfl (encF_cells fs[i]) fun w4 hb4 hk4 hz4 => ?_
    have hb4' : Blk w4 w2.heap.size 23 (encF fs[i]) := by simpa [Value.cells, vF] using hb4
    have hk24 : Kept [] w2 w4 := hk3.trans hk4 (by simp) (by simp)
    have hz24 := hk24.size
    obtain ⟨L0, L1, L2, L3, L4, L5⟩ := ldF (blk_drew hb4')
    simp only [L5]
    refine (rowV.get hv (hk2.then hk24 (by simp)).drew hir).2 ?_
    have hiv' := (hvv i _ _ (List.getElem?_eq_getElem hir) (List.getElem?_eq_getElem hiv)).kept0 (hk2.then hk24 (by simp)).drew
    refine xE_call CF_42 (fits_ok hiv' (hll _ (List.getElem_mem hiv))) ?_
    rintro _ w5 ⟨rfl, hk5⟩
    have hk45 : Kept [] w4 w5 := (Kept.refl _ _).drew.then hk5 (by simp)
    have hz5 : w4.heap.size ≤ w5.heap.size := hk45.size
    have hk25 : Kept [] w w5 := (hk2.then hk24 (by simp)).then hk45 (by simp)
    have ed : putRest i (fs.drop i) (vs.drop i) = if fs[i].fits vs[i] then (putRest (i + 1) (fs.drop (i + 1)) (vs.drop (i + 1))).map (fs[i].written vs[i] ++ ·) else .error (i, 2) := by
      rw [List.drop_eq_getElem_cons hif, List.drop_eq_getElem_cons hiv]
      rfl
    simp only [xP_nil, xP_pick, xP_func, xP_not, xP_add, xP_sub, xP_mul, xP_lss, xP_leq, xP_gtr, xP_geq, xP_max2, xP_min2, xR_eql, xR_neq, Nat.zero_add, Nat.add_zero, Nat.reduceAdd, List.getD_cons_zero, List.getD_cons_succ, xIf_true, xIf_false, FA_23_0, FA_23_1, FA_23_2, FA_23_3, FA_23_4, FA_32_0, FA_32_1, FA_32_2, FA_63_0, FA_63_1, FA_63_2, FA_63_3, FA_80_0, FA_80_1, FA_80_2, FA_85_0, FA_85_1, FA_85_2, LEN_24, LEN_25, LEN_30, LEN_33, LEN_58, LEN_82, LEN_134, xIf_bool]
    refine ⟨fun hno => ?_, fun hyes => ?_⟩
    · simp only [Bool.not_eq_true'] at hno
      simp only [xP_iface CEN]
      refine xE_call CF_41 wrap_ok ?_
      rintro _ _ ⟨rfl, rfl⟩
      rw [hput, ed, if_neg (by simp [hno])]
      exact ⟨rfl, hk25⟩
    · simp only [Bool.not_eq_false'] at hyes
      obtain ⟨M0, M1, M2, M3, M4, M5⟩ := ldF (blk_drew (hb4'.kept hk45 (by simp)))
      simp only [M5]
      refine (rowV.get hv hk25.drew hir).2 ?_
      have hiv5 := (hvv i _ _ (List.getElem?_eq_getElem hir) (List.getElem?_eq_getElem hiv)).kept0 hk25.drew
      have hrt := hall _ (List.getElem_mem hif)
      refine xE_call CF_43 (written_ok hiv5 hrt hyes) ?_
      rintro o6 w6 hfr
      have hsrc := hfr.src
      obtain ⟨F6, ho6, hF6, hk6⟩ := hfr
      have hk56 : Kept [] w5 w6 := (Kept.refl _ _).drew.then hk6 (by simp)
      have hz6 := hk56.size
      have hwl := written_len hrt hyes
      refine xE_appendSrc EL_25 (((ho.kept hk24 (by simp)).kept hk45 (by simp)).kept hk56 (by simp)) hsrc (by omega) (by unfold maxLen; omega) fun o7 w7 F7 ho7 hk7 hf7 _ => ?_
      rw [wrap64 (by omega) (by omega)]
      have hz2 := hk2.size
      refine ⟨⟨i + 1, o7, F7, B ++ fs[i].written vs[i], rfl, hif, by rw [List.flatMap_append, List.length_append]; exact ho7, by rw [List.length_append]; omega, fun g hg => (hf7 g hg).elim (hF g) (fun h => by omega), (hk25.then hk56 (by simp)).then hk7 (fun g hg => .inr (hF g hg)), ?_⟩, by omega⟩
      rw [hput, ed, if_pos hyes]
      cases putRest (i + 1) (fs.drop (i + 1)) (vs.drop (i + 1)) <;> simp [Except.map]
  · obtain rfl : i = fs.length := by omega
    have hnil : fs.drop fs.length = [] := List.drop_length
    rw [hput, hnil]
    simp only [putRest, Except.map]
    exact ⟨o, rfl, F, by simpa using ho, hF, hk2⟩
end Go.Proofs.YtclojjiiiejfpaaDoor
