import Derived.Test.YtclojjiiiejfpaaDoorXgGram1
namespace Go.Proofs.YtclojjiiiejfpaaDoor
set_option linter.unusedSimpArgs false
set_option linter.unusedVariables false
set_option maxRecDepth 100000
attribute [local irreducible] Go.X.xE
open Go Go.X

theorem rowF : RowB Tryd.prog 24 23 5 encF vF := RowB.agg SL_24 SZ_23 encF_len AGG_23
theorem rowS : RowB Tryd.prog 30 9 1 encS (fun s : ByteArray => Value.string s) := RowB.one SL_30 SZ_9 ONE_9
theorem STR : strB Tryd.prog 9 := by unfold strB; kernel_rfl
theorem BYT : bytesTy Tryd.prog 25 := ⟨5, by kernel_rfl, by kernel_rfl⟩

def small (fs : List GFd) : Prop := ∀ f ∈ fs, f.hi ≤ 9223372036854775807
theorem wrong1_ok {f : GFd} {w : World} (h8 : f.hi ≤ 9223372036854775807) : Gives Tryd.prog 60 #[vF f] w fun u w' => u = .bool (!f.right) ∧ Kept [] w w' := by
  refine C_gram_wrongx1 ?_
  unfold S_gram_wrongx1
  refine xE_box fun w1 hb hk hz => ?_
  obtain ⟨L0, L1, L2, L3, L4, L5⟩ := ldF (f := f) hb
  simp only [L5]
  refine xE_call CF_23 (right_ok h8) ?_
  rintro _ w2 ⟨rfl, hk2⟩
  simp only [xP_nil, xP_pick, xP_func, xP_not, xP_add, xP_sub, xP_mul, xP_lss, xP_leq, xP_gtr, xP_geq, xP_max2, xP_min2, xR_eql, xR_neq, Nat.zero_add, Nat.add_zero, Nat.reduceAdd, List.getD_cons_zero, List.getD_cons_succ, xIf_true, xIf_false, FA_23_0, FA_23_1, FA_23_2, FA_23_3, FA_23_4, FA_32_0, FA_32_1, FA_32_2, FA_63_0, FA_63_1, FA_63_2, FA_63_3, FA_80_0, FA_80_1, FA_80_2, FA_85_0, FA_85_1, FA_85_2, LEN_24, LEN_25, LEN_30, LEN_33, LEN_58, LEN_82, LEN_134]
  exact ⟨rfl, hk.then hk2 (by simp)⟩
theorem wrong_ok {fs : List GFd} {v : Value} {w : World} (hsl : SlT w encF v fs) (hlen : fs.length ≤ 9223372036854775806) (hs : small fs) :
    Gives Tryd.prog 40 #[v] w fun u w' => u = .int .i64 (if fs.findIdx (fun f => !f.right) < fs.length then (fs.findIdx (fun f => !f.right) : Int) else -1) ∧ Kept [] w w' := by
  refine C_gram_wrong ?_
  unfold S_gram_wrong
  refine xE_call (Q := fun u w' => u = .int .i64 (if fs.findIdx (fun f => !f.right) < fs.length then (fs.findIdx (fun f => !f.right) : Int) else -1) ∧ Kept [] w w') CF_59 ?_ ?_
  · refine C_slices_IndexFunc_api_Field ?_
    exact xIndexFunc rowF (p := fun f => !f.right) (by kernel_rfl) hsl hlen (fun f hf w' _ => wrong1_ok (hs f hf)) (fun w' hk => ⟨rfl, hk⟩)
  rintro _ w1 ⟨rfl, hk⟩
  exact ⟨rfl, hk⟩

/-! ## Values -/
theorem ldV {w : World} {b : Nat} {x : RawV} (h : Blk w b 32 (encV x)) :
    (∀ K, xR Tryd.prog (sLoad 3 (.pointer (some ⟨b, 0, none⟩))) w K ↔ K (.int .i64 x.n)) ∧ (∀ K, xR Tryd.prog (sLoad 9 (.pointer (some ⟨b, 1, none⟩))) w K ↔ K (.string x.s)) ∧
    (∀ K, xR Tryd.prog (sLoad 30 (.pointer (some ⟨b, 2, none⟩))) w K ↔ K x.lv) ∧ (∀ K, xR Tryd.prog (sLoad 32 (.pointer (some ⟨b, 0, none⟩))) w K ↔ K (vV x)) :=
  ⟨fun _ => ld1 ONE_3 (h.cell (o := 0)), fun _ => ld1 ONE_9 (h.cell (o := 1)), fun _ => ld1 ONE_30 (h.cell (o := 2)), fun _ => ldN (l := encV x) AGG_32 h.at⟩
theorem fits1_ok {f : GFd} {s : ByteArray} {b : Nat} {w : World} (hb : Blk w b 23 (encF f)) :
    Gives Tryd.prog 63 #[.string s, .pointer (some ⟨b, 0, none⟩)] w fun u w' => u = .bool (decide (f.most < s.size)) ∧ Kept [] w w' := by
  refine C_gram_fitsx1 ?_
  unfold S_gram_fitsx1
  obtain ⟨L0, L1, L2, L3, L4, L5⟩ := ldF hb
  simp only [xP_nil, xP_pick, xP_func, xP_not, xP_add, xP_sub, xP_mul, xP_lss, xP_leq, xP_gtr, xP_geq, xP_max2, xP_min2, xR_eql, xR_neq, Nat.zero_add, Nat.add_zero, Nat.reduceAdd, List.getD_cons_zero, List.getD_cons_succ, xIf_true, xIf_false, FA_23_0, FA_23_1, FA_23_2, FA_23_3, FA_23_4, FA_32_0, FA_32_1, FA_32_2, FA_63_0, FA_63_1, FA_63_2, FA_63_3, FA_80_0, FA_80_1, FA_80_2, FA_85_0, FA_85_1, FA_85_2, LEN_24, LEN_25, LEN_30, LEN_33, LEN_58, LEN_82, LEN_134, xP_lenS STR, L4]
  exact ⟨rfl, Kept.refl _ _⟩
theorem SlT.len_le {α : Type} {w : World} {enc : α → List Value} {a : Option Addr} {n c : Nat} {l : List α} (h : SlT w enc (.slice a n c) l) : n = l.length := by
  obtain ⟨a', c', h, _⟩ := h
  cases h; rfl

theorem fits_ok {f : GFd} {v : GVl} {x : RawV} {w : World} (hv : IsV w x v) (hlen : v.l.length ≤ 9223372036854775806) :
    Gives Tryd.prog 42 #[vF f, vV x] w fun u w' => u = .bool (f.fits v) ∧ Kept [] w w' := by
  refine C_gram_fits ?_
  unfold S_gram_fits
  refine xE_box fun w1 hb1 hk1 hz1 => ?_
  refine xE_box fun w2 hb2 hk2 hz2 => ?_
  have hk : Kept [] w w2.drew := (hk1.then hk2 (by simp)).drew
  have hb1' := blk_drew (hb1.kept hk2 (by simp))
  have hb2' := blk_drew hb2
  generalize w.heap.size = b at *
  generalize w1.heap.size = b2 at *
  obtain ⟨L0, L1, L2, L3, L4, L5⟩ := ldF (f := f) hb1'
  obtain ⟨V0, V1, V2, V3⟩ := ldV (x := x) hb2'
  obtain ⟨e1, e2, hsl⟩ := hv
  have hsl2 := hsl.kept0 hk
  obtain ⟨a, c, elv, hc, hr⟩ := hsl
  generalize w2.drew = w3 at *
  simp only [xP_nil, xP_pick, xP_func, xP_not, xP_add, xP_sub, xP_mul, xP_lss, xP_leq, xP_gtr, xP_geq, xP_max2, xP_min2, xR_eql, xR_neq, Nat.zero_add, Nat.add_zero, Nat.reduceAdd, List.getD_cons_zero, List.getD_cons_succ, xIf_true, xIf_false, FA_23_0, FA_23_1, FA_23_2, FA_23_3, FA_23_4, FA_32_0, FA_32_1, FA_32_2, FA_63_0, FA_63_1, FA_63_2, FA_63_3, FA_80_0, FA_80_1, FA_80_2, FA_85_0, FA_85_1, FA_85_2, LEN_24, LEN_25, LEN_30, LEN_33, LEN_58, LEN_82, LEN_134, V0, V1, V2, L0, L5, xR_neqStr, elv]
  rw [← elv, e1, e2]
  have et : (decide ((0 : Int) < (v.l.length : Int))) = !v.l.isEmpty := by
    cases v.l with
    | nil => rfl
    | cons => simp
  have en : (decide (v.n ≠ 0)) = !decide (v.n = 0) := by simp
  have es : (ByteArray.mk #[] : ByteArray) = strEmpty := rfl
  simp only [et, en, es, xIf_dec]
  refine ⟨fun h1 => ?_, fun h1 => ⟨fun h2 => ?_, fun h2 => ?_⟩⟩
  · refine xE_call CF_61 in_ok ?_
    rintro _ w4 ⟨rfl, hk4⟩
    have hk' := hk.then hk4 (by simp)
    simp only [xP_nil, xP_pick, xP_func, xP_not, xP_add, xP_sub, xP_mul, xP_lss, xP_leq, xP_gtr, xP_geq, xP_max2, xP_min2, xR_eql, xR_neq, Nat.zero_add, Nat.add_zero, Nat.reduceAdd, List.getD_cons_zero, List.getD_cons_succ, xIf_true, xIf_false, FA_23_0, FA_23_1, FA_23_2, FA_23_3, FA_23_4, FA_32_0, FA_32_1, FA_32_2, FA_63_0, FA_63_1, FA_63_2, FA_63_3, FA_80_0, FA_80_1, FA_80_2, FA_85_0, FA_85_1, FA_85_2, LEN_24, LEN_25, LEN_30, LEN_33, LEN_58, LEN_82, LEN_134, xIf_bool]
    have ef : f.fits v = (f.isIn v.n && !!decide (v.s = strEmpty) && !!v.l.isEmpty) := by unfold GFd.fits; exact if_pos h1
    exact ⟨fun a1 => ⟨fun a2 => ⟨by rw [ef, a1, a2]; rfl, hk'⟩, fun a2 => ⟨by rw [ef, a1, a2]; rfl, hk'⟩⟩, fun a1 => ⟨by rw [ef, a1]; rfl, hk'⟩⟩
  · simp only [xP_lenS STR]
    refine xE_call CF_61 in_ok ?_
    rintro _ w4 ⟨rfl, hk4⟩
    have hk' := hk.then hk4 (by simp)
    simp only [xP_nil, xP_pick, xP_func, xP_not, xP_add, xP_sub, xP_mul, xP_lss, xP_leq, xP_gtr, xP_geq, xP_max2, xP_min2, xR_eql, xR_neq, Nat.zero_add, Nat.add_zero, Nat.reduceAdd, List.getD_cons_zero, List.getD_cons_succ, xIf_true, xIf_false, FA_23_0, FA_23_1, FA_23_2, FA_23_3, FA_23_4, FA_32_0, FA_32_1, FA_32_2, FA_63_0, FA_63_1, FA_63_2, FA_63_3, FA_80_0, FA_80_1, FA_80_2, FA_85_0, FA_85_1, FA_85_2, LEN_24, LEN_25, LEN_30, LEN_33, LEN_58, LEN_82, LEN_134, xIf_bool]
    have ef : f.fits v = (f.isIn v.s.size && !!decide (v.n = 0) && !!v.l.isEmpty) := by unfold GFd.fits; exact (if_neg h1).trans (if_pos h2)
    exact ⟨fun a1 => ⟨fun a2 => ⟨by rw [ef, a1, a2]; rfl, hk'⟩, fun a2 => ⟨by rw [ef, a1, a2]; rfl, hk'⟩⟩, fun a1 => ⟨by rw [ef, a1]; rfl, hk'⟩⟩
  · refine xE_call (Q := fun u w' => u = .bool (v.l.any fun s => decide (f.most < s.size)) ∧ Kept [] w3 w') CF_62 ?_ ?_
    · refine C_slices_ContainsFunc_string ?_
      unfold S_slices_ContainsFunc_string
      refine xE_call (Q := fun u w' => u = .int .i64 (if v.l.findIdx (fun s => decide (f.most < s.size)) < v.l.length then (v.l.findIdx (fun s => decide (f.most < s.size)) : Int) else -1) ∧ Kept [] w3 w') CF_74 ?_ ?_
      · refine C_slices_IndexFunc_string ?_
        exact xIndexFunc rowS (p := fun s => decide (f.most < s.size)) (by kernel_rfl) hsl2 hlen (fun s _ w' hk => fits1_ok (hb1'.kept hk (by simp))) (fun w' hk => ⟨rfl, hk⟩)
      rintro _ w4 ⟨rfl, hk4⟩
      simp only [xP_nil, xP_pick, xP_func, xP_not, xP_add, xP_sub, xP_mul, xP_lss, xP_leq, xP_gtr, xP_geq, xP_max2, xP_min2, xR_eql, xR_neq, Nat.zero_add, Nat.add_zero, Nat.reduceAdd, List.getD_cons_zero, List.getD_cons_succ, xIf_true, xIf_false, FA_23_0, FA_23_1, FA_23_2, FA_23_3, FA_23_4, FA_32_0, FA_32_1, FA_32_2, FA_63_0, FA_63_1, FA_63_2, FA_63_3, FA_80_0, FA_80_1, FA_80_2, FA_85_0, FA_85_1, FA_85_2, LEN_24, LEN_25, LEN_30, LEN_33, LEN_58, LEN_82, LEN_134, found]
      exact ⟨rfl, hk4⟩
    rintro _ w4 ⟨rfl, hk4⟩
    obtain ⟨M0, M1, M2, M3, M4, M5⟩ := ldF (f := f) (hb1'.kept hk4 (by simp))
    obtain ⟨U0, U1, U2, U3⟩ := ldV (x := x) (hb2'.kept hk4 (by simp))
    simp only [xP_nil, xP_pick, xP_func, xP_not, xP_add, xP_sub, xP_mul, xP_lss, xP_leq, xP_gtr, xP_geq, xP_max2, xP_min2, xR_eql, xR_neq, Nat.zero_add, Nat.add_zero, Nat.reduceAdd, List.getD_cons_zero, List.getD_cons_succ, xIf_true, xIf_false, FA_23_0, FA_23_1, FA_23_2, FA_23_3, FA_23_4, FA_32_0, FA_32_1, FA_32_2, FA_63_0, FA_63_1, FA_63_2, FA_63_3, FA_80_0, FA_80_1, FA_80_2, FA_85_0, FA_85_1, FA_85_2, LEN_24, LEN_25, LEN_30, LEN_33, LEN_58, LEN_82, LEN_134, M5, U2, elv]
    refine xE_call CF_61 in_ok ?_
    rintro _ w5 ⟨rfl, hk5⟩
    have hk' := (hk.then hk4 (by simp)).then hk5 (by simp)
    simp only [xP_nil, xP_pick, xP_func, xP_not, xP_add, xP_sub, xP_mul, xP_lss, xP_leq, xP_gtr, xP_geq, xP_max2, xP_min2, xR_eql, xR_neq, Nat.zero_add, Nat.add_zero, Nat.reduceAdd, List.getD_cons_zero, List.getD_cons_succ, xIf_true, xIf_false, FA_23_0, FA_23_1, FA_23_2, FA_23_3, FA_23_4, FA_32_0, FA_32_1, FA_32_2, FA_63_0, FA_63_1, FA_63_2, FA_63_3, FA_80_0, FA_80_1, FA_80_2, FA_85_0, FA_85_1, FA_85_2, LEN_24, LEN_25, LEN_30, LEN_33, LEN_58, LEN_82, LEN_134, xIf_bool]
    have ef : f.fits v = (f.isIn v.l.length && !(v.l.any fun s => decide (f.most < s.size)) && !!decide (v.n = 0) && !!decide (v.s = strEmpty)) := by unfold GFd.fits; exact (if_neg h1).trans (if_neg h2)
    exact ⟨fun a1 => ⟨fun a2 => ⟨fun a3 => ⟨by rw [ef, a1, a2, a3]; rfl, hk'⟩, fun a3 => ⟨by rw [ef, a1, a2, a3]; rfl, hk'⟩⟩, fun a2 => ⟨by rw [ef, a1, a2]; rfl, hk'⟩⟩, fun a1 => ⟨by rw [ef, a1]; rfl, hk'⟩⟩
end Go.Proofs.YtclojjiiiejfpaaDoor
