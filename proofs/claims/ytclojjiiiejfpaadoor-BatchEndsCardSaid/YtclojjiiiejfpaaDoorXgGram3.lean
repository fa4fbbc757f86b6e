import Derived.Test.YtclojjiiiejfpaaDoorXgGram2
import Derived.Test.YtclojjiiiejfpaaDoorXB
namespace Go.Proofs.YtclojjiiiejfpaaDoor
set_option linter.unusedSimpArgs false
set_option linter.unusedVariables false
set_option maxRecDepth 100000
attribute [local irreducible] Go.X.xE
open Go Go.X

/-! ## What is written -/
/-- Fresh bytes. -/
def Fresh (w w' : World) (v : Value) (l : List UInt8) : Prop := ∃ F, Own w' 5 1 v l.length (l.flatMap encB) F ∧ (∀ g ∈ F, w.heap.size ≤ g) ∧ Kept [] w w'

theorem low_ok {n : Int} {k : Nat} {w : World} (hk8 : k ≤ 8) : Gives Tryd.prog 64 #[.int .i64 n, .int .i64 k] w fun u w' => Fresh w w' u (lowB n k) := by
  refine C_gram_low ?_
  unfold S_gram_low
  refine xE_make EL_25 (l := k) (by omega) (by unfold maxLen; omega) fun w1 hb1 hk1 hz1 => ?_
  simp only [xP_nil, xP_pick, xP_func, xP_not, xP_add, xP_sub, xP_mul, xP_lss, xP_leq, xP_gtr, xP_geq, xP_max2, xP_min2, xR_eql, xR_neq, Nat.zero_add, Nat.add_zero, Nat.reduceAdd, List.getD_cons_zero, List.getD_cons_succ, xIf_true, xIf_false, FA_23_0, FA_23_1, FA_23_2, FA_23_3, FA_23_4, FA_32_0, FA_32_1, FA_32_2, FA_63_0, FA_63_1, FA_63_2, FA_63_3, FA_80_0, FA_80_1, FA_80_2, FA_85_0, FA_85_1, FA_85_2, LEN_24, LEN_25, LEN_30, LEN_33, LEN_58, LEN_82, LEN_134]
  refine xLoop_of (fun vs w' => ∃ i : Nat, vs = [.int .i64 i] ∧ i ≤ k ∧ Blk w' w.heap.size 5 ((lowB n i).flatMap encB ++ List.replicate (k - i) (.int .u8 0)) ∧ Kept [] w w' ∧ w'.heap.size = w.heap.size + 1)
    (fun vs _ => match vs with | [.int _ i] => k - i.toNat | _ => 0) ⟨0, rfl, by omega, hb1, hk1, hz1⟩ ?_
  rintro _ _ w2 ⟨i, rfl, hi, hb2, hk2, hz2⟩
  simp only [xP_nil, xP_pick, xP_func, xP_not, xP_add, xP_sub, xP_mul, xP_lss, xP_leq, xP_gtr, xP_geq, xP_max2, xP_min2, xR_eql, xR_neq, Nat.zero_add, Nat.add_zero, Nat.reduceAdd, List.getD_cons_zero, List.getD_cons_succ, xIf_true, xIf_false, FA_23_0, FA_23_1, FA_23_2, FA_23_3, FA_23_4, FA_32_0, FA_32_1, FA_32_2, FA_63_0, FA_63_1, FA_63_2, FA_63_3, FA_80_0, FA_80_1, FA_80_2, FA_85_0, FA_85_1, FA_85_2, LEN_24, LEN_25, LEN_30, LEN_33, LEN_58, LEN_82, LEN_134, xIf_dec]
  have hl : ((lowB n i).flatMap encB).length = i := by rw [flat_len encB_len, lowB_len, Nat.mul_one]
  refine ⟨fun hlt => ?_, fun hge => ?_⟩
  · have hlt' : i < k := by omega
    have h0 : (0 : Int) ≤ 8 * i := by omega
    rw [wrap64 (by omega) (by omega)]
    simp only [xP_conv INT_3 INT_90, wrapU64 h0 (show (8 * (i : Int)) ≤ 18446744073709551615 by omega)]
    refine (xP_shr h0).2 ?_
    have e2 : min (8 * (i : Int)).toNat IntKind.i64.bits = 8 * i := by
      rw [Nat.min_eq_left]
      · omega
      · show _ ≤ 64
        omega
    rw [e2]
    simp only [xP_conv INT_3 INT_5, wrapU8, low_cell]
    refine (xP_IAn SL_25 SZ_5 hlt').2 ?_
    simp only [xP_nil, xP_pick, xP_func, xP_not, xP_add, xP_sub, xP_mul, xP_lss, xP_leq, xP_gtr, xP_geq, xP_max2, xP_min2, xR_eql, xR_neq, Nat.zero_add, Nat.add_zero, Nat.reduceAdd, List.getD_cons_zero, List.getD_cons_succ, xIf_true, xIf_false, FA_23_0, FA_23_1, FA_23_2, FA_23_3, FA_23_4, FA_32_0, FA_32_1, FA_32_2, FA_63_0, FA_63_1, FA_63_2, FA_63_3, FA_80_0, FA_80_1, FA_80_2, FA_85_0, FA_85_1, FA_85_2, LEN_24, LEN_25, LEN_30, LEN_33, LEN_58, LEN_82, LEN_134, Nat.mul_one]
    refine xE_store1 SZ_5 hb2 (by rw [List.length_append, hl, List.length_replicate]; omega) rfl fun w3 hb3 hk3 hz3 => ?_
    rw [wrap64 (by omega) (by omega)]
    refine ⟨⟨i + 1, rfl, hlt', ?_, hk2.then hk3 (by simp), by omega⟩, by omega⟩
    have e3 : k - i = (k - (i + 1)) + 1 := by omega
    rw [e3, set_row hl] at hb3
    rw [lowB_succ, List.flatMap_append]
    simpa [encB] using hb3
  · obtain rfl : i = k := by omega
    rw [Nat.sub_self, List.replicate_zero, List.append_nil] at hb2
    refine ⟨[w.heap.size], ?_, by simp, hk2⟩
    rw [lowB_len]
    exact own_of_blk hb2 (by rw [hl, Nat.mul_one]) (by unfold maxLen; omega)

theorem UB : Tryd.prog.underlying 25 = some (.slice 5) := by kernel_rfl
theorem Fresh.src {w w' : World} {v : Value} {l : List UInt8} (h : Fresh w w' v l) : Src Tryd.prog 1 25 v l.length (l.flatMap encB) w' := by
  obtain ⟨F, ho, _, _⟩ := h
  exact Src.ofSlT UB (ho.slT encB_len (by omega)) encB_len encB_one
theorem textB_len (s : ByteArray) : (textB s).length = 2 + s.size := by simp [textB, lowB_len, bytesOf_len]
theorem texts_len {m : Nat} : ∀ (l : List ByteArray), (∀ s ∈ l, s.size ≤ m) → (l.flatMap textB).length ≤ l.length * (2 + m)
  | [], _ => by simp
  | s :: l, h => by
    have h1 := h s List.mem_cons_self
    have h2 := texts_len l (fun x hx => h x (List.mem_cons_of_mem _ hx))
    rw [List.flatMap_cons, List.length_append, List.length_cons, textB_len, Nat.add_mul]
    omega

theorem right_size {f : GFd} (h : f.right = true) (hk : f.kind = 1) : f.size = 1 ∨ f.size = 2 ∨ f.size = 4 ∨ f.size = 8 := by
  unfold GFd.right at h
  rw [if_pos hk] at h
  simp at h
  omega
theorem fits_text {f : GFd} {v : GVl} (h : f.right = true) (hf : f.fits v = true) (hk : f.kind = 2) : v.s.size ≤ 65535 := by
  unfold GFd.right at h
  unfold GFd.fits GFd.isIn at hf
  simp [hk] at h hf
  omega
theorem fits_texts {f : GFd} {v : GVl} (h : f.right = true) (hf : f.fits v = true) (hk : f.kind ≠ 1) (hk2 : f.kind ≠ 2) : v.l.length ≤ 255 ∧ ∀ s ∈ v.l, s.size ≤ 65535 := by
  unfold GFd.right at h
  unfold GFd.fits GFd.isIn at hf
  simp [hk, hk2] at h hf
  refine ⟨by omega, fun s hs => ?_⟩
  have := hf.1.1.2 s hs
  omega

theorem written_ok {f : GFd} {v : GVl} {x : RawV} {w : World} (hv : IsV w x v) (hr : f.right = true) (hf : f.fits v = true) :
    Gives Tryd.prog 43 #[vF f, vV x] w fun u w' => Fresh w w' u (f.written v) := by
  refine C_gram_written ?_
  unfold S_gram_written
  refine xE_box fun w1 hb1 hk1 hz1 => ?_
  refine xE_box fun w2 hb2 hk2 hz2 => ?_
  have hk : Kept [] w w2 := hk1.then hk2 (by simp)
  have hb1' := hb1.kept hk2 (by simp)
  generalize hB : w.heap.size = b at *
  generalize hB1 : w1.heap.size = b2 at *
  obtain ⟨L0, L1, L2, L3, L4, L5⟩ := ldF (f := f) hb1'
  obtain ⟨V0, V1, V2, V3⟩ := ldV (x := x) hb2
  obtain ⟨D0, D1, D2, D3⟩ := ldV (x := x) (blk_drew hb2)
  obtain ⟨e1, e2, hsl⟩ := hv
  have hsl2 := hsl.kept0 hk
  simp only [xP_nil, xP_pick, xP_func, xP_not, xP_add, xP_sub, xP_mul, xP_lss, xP_leq, xP_gtr, xP_geq, xP_max2, xP_min2, xR_eql, xR_neq, Nat.zero_add, Nat.add_zero, Nat.reduceAdd, List.getD_cons_zero, List.getD_cons_succ, xIf_true, xIf_false, FA_23_0, FA_23_1, FA_23_2, FA_23_3, FA_23_4, FA_32_0, FA_32_1, FA_32_2, FA_63_0, FA_63_1, FA_63_2, FA_63_3, FA_80_0, FA_80_1, FA_80_2, FA_85_0, FA_85_1, FA_85_2, LEN_24, LEN_25, LEN_30, LEN_33, LEN_58, LEN_82, LEN_134, V0, V2, D1, L0, L1, xIf_dec, e1, e2]
  refine ⟨fun h1 => ?_, fun h1 => ⟨fun h2 => ?_, fun h2 => ?_⟩⟩
  · obtain ⟨k, hk8, hks⟩ : ∃ k : Nat, k ≤ 8 ∧ f.size = k := by
      rcases right_size hr h1 with h | h | h | h <;> exact ⟨f.size.toNat, by omega, by omega⟩
    rw [hks]
    refine xE_call CF_64 (low_ok hk8) ?_
    rintro u w3 ⟨F, ho, hF, hk3⟩
    have ew : f.written v = lowB v.n k := by unfold GFd.written; rw [if_pos h1, hks, Int.toNat_natCast]
    rw [← ew] at ho
    exact ⟨F, ho, fun g hg => by have := hF g hg; omega, hk.then hk3 (by simp)⟩
  · have hsz := fits_text hr hf h2
    simp only [xP_lenS STR]
    refine xE_call CF_64 (low_ok (k := 2) (by omega)) ?_
    rintro u w3 ⟨F, ho, hF, hk3⟩
    have hz3 := hk3.size
    have hk23 : Kept [] w2 w3 := (Kept.refl _ _).drew.then hk3 (by simp)
    refine (still1 ONE_9 (v := .string v.s) (by rw [← e2]; exact (hb2.kept hk23 (by simp)).cell (o := 1))).2 ?_
    refine xE_appendSrc EL_25 ho (Src.ofStr STR v.s) (by rw [lowB_len]; omega) (by rw [lowB_len]; unfold maxLen; omega) fun u' w4 F4 ho4 hk4 hf4 hone => ?_
    have ew : f.written v = lowB v.s.size 2 ++ bytesOf v.s := by unfold GFd.written; rw [if_neg h1, if_pos h2]; rfl
    have hz4 := hk4.size
    have hz23 : w3.heap.size ≥ w2.heap.size := hz3
    refine ⟨F4, ?_, fun g hg => ?_, (hk.then hk23 (by simp)).then hk4 (fun g hg => .inr (by have := hF g hg; have : w2.drew.heap.size = w2.heap.size := rfl; omega))⟩
    · rw [ew, List.flatMap_append, List.length_append, bytesOf_len]
      exact ho4
    · rcases hf4 g hg with h | h
      · have := hF g h
        have : w2.drew.heap.size = w2.heap.size := rfl
        omega
      · omega
  · obtain ⟨hl255, hsz⟩ := fits_texts hr hf h1 h2
    obtain ⟨a, c, elv, hc, hrow⟩ := hsl2
    have hsl2 : SlT w2 encS x.lv v.l := ⟨a, c, elv, hc, hrow⟩
    simp only [xP_nil, xP_pick, xP_func, xP_not, xP_add, xP_sub, xP_mul, xP_lss, xP_leq, xP_gtr, xP_geq, xP_max2, xP_min2, xR_eql, xR_neq, Nat.zero_add, Nat.add_zero, Nat.reduceAdd, List.getD_cons_zero, List.getD_cons_succ, xIf_true, xIf_false, FA_23_0, FA_23_1, FA_23_2, FA_23_3, FA_23_4, FA_32_0, FA_32_1, FA_32_2, FA_63_0, FA_63_1, FA_63_2, FA_63_3, FA_80_0, FA_80_1, FA_80_2, FA_85_0, FA_85_1, FA_85_2, LEN_24, LEN_25, LEN_30, LEN_33, LEN_58, LEN_82, LEN_134, elv]
    refine xE_call CF_64 (low_ok (k := 1) (by omega)) ?_
    rintro u w3 ⟨F, ho, hF, hk3⟩
    have hz3 := hk3.size
    obtain ⟨U0, U1, U2, U3⟩ := ldV (x := x) (hb2.kept hk3 (by simp))
    simp only [xP_nil, xP_pick, xP_func, xP_not, xP_add, xP_sub, xP_mul, xP_lss, xP_leq, xP_gtr, xP_geq, xP_max2, xP_min2, xR_eql, xR_neq, Nat.zero_add, Nat.add_zero, Nat.reduceAdd, List.getD_cons_zero, List.getD_cons_succ, xIf_true, xIf_false, FA_23_0, FA_23_1, FA_23_2, FA_23_3, FA_23_4, FA_32_0, FA_32_1, FA_32_2, FA_63_0, FA_63_1, FA_63_2, FA_63_3, FA_80_0, FA_80_1, FA_80_2, FA_85_0, FA_85_1, FA_85_2, LEN_24, LEN_25, LEN_30, LEN_33, LEN_58, LEN_82, LEN_134, U2, elv]
    rw [← elv]
    refine xLoop_of (fun vs w' => ∃ (i : Nat) (u : Value) (F : List Nat), vs = [u, .int .i64 i] ∧ i ≤ v.l.length ∧ Own w' 5 1 u (lowB v.l.length 1 ++ (v.l.take i).flatMap textB).length ((lowB v.l.length 1 ++ (v.l.take i).flatMap textB).flatMap encB) F ∧ (∀ g ∈ F, w2.heap.size ≤ g) ∧ Kept [] w2 w')
      (fun vs _ => match vs with | [_, .int _ i] => v.l.length - i.toNat | _ => 0) ⟨0, u, F, rfl, by omega, by simpa using ho, hF, hk3⟩ ?_
    rintro _ _ w4 ⟨i, u, F, rfl, hi, ho, hF, hk4⟩
    simp only [xP_nil, xP_pick, xP_func, xP_not, xP_add, xP_sub, xP_mul, xP_lss, xP_leq, xP_gtr, xP_geq, xP_max2, xP_min2, xR_eql, xR_neq, Nat.zero_add, Nat.add_zero, Nat.reduceAdd, List.getD_cons_zero, List.getD_cons_succ, xIf_true, xIf_false, FA_23_0, FA_23_1, FA_23_2, FA_23_3, FA_23_4, FA_32_0, FA_32_1, FA_32_2, FA_63_0, FA_63_1, FA_63_2, FA_63_3, FA_80_0, FA_80_1, FA_80_2, FA_85_0, FA_85_1, FA_85_2, LEN_24, LEN_25, LEN_30, LEN_33, LEN_58, LEN_82, LEN_134, xIf_dec]
    have hz4 := hk4.size
    refine ⟨fun hlt => ?_, fun hge => ?_⟩
    · have hlt' : i < v.l.length := by omega
      refine (rowS.get hsl2 hk4 hlt').2 ?_
      have hsi := hsz _ (List.getElem_mem hlt')
      simp only [xP_lenS STR]
      refine xE_call CF_64 (low_ok (k := 2) (by omega)) ?_
      rintro u5 w5 hfr
      have hsrc := hfr.src
      obtain ⟨F5, ho5, hF5, hk5⟩ := hfr
      have hz5 := hk5.size
      have htl := texts_len (m := 65535) (v.l.take i) (fun s hs => hsz s (List.mem_of_mem_take hs))
      have htk : (v.l.take i).length ≤ 255 := by rw [List.length_take]; omega
      have htl2 : (v.l.take i).length * (2 + 65535) ≤ 255 * (2 + 65535) := Nat.mul_le_mul_right _ htk
      rw [lowB_len] at hsrc
      have hb1 : (lowB v.l.length 1 ++ (v.l.take i).flatMap textB).length ≤ 16711936 := by rw [List.length_append, lowB_len]; omega
      refine xE_appendSrc EL_25 (ho.kept hk5 (by simp)) hsrc (by omega) (by unfold maxLen; omega) fun u6 w6 F6 ho6 hk6 hf6 _ => ?_
      have hz6 := hk6.size
      refine xE_appendSrc EL_25 ho6 (Src.ofStr STR _) (by omega) (by unfold maxLen; omega) fun u7 w7 F7 ho7 hk7 hf7 _ => ?_
      rw [wrap64 (by omega) (by omega)]
      have hF6 : ∀ g ∈ F6, w2.heap.size ≤ g := fun g hg => (hf6 g hg).elim (hF g) (fun h => by omega)
      have hF7 : ∀ g ∈ F7, w2.heap.size ≤ g := fun g hg => (hf7 g hg).elim (hF6 g) (fun h => by omega)
      refine ⟨⟨i + 1, u7, F7, rfl, hlt', ?_, hF7, ((hk4.then hk5 (by simp)).then hk6 (fun g hg => .inr (hF g hg))).then hk7 (fun g hg => .inr (hF6 g hg))⟩, by omega⟩
      have et : lowB v.l.length 1 ++ (v.l.take (i + 1)).flatMap textB = (lowB v.l.length 1 ++ (v.l.take i).flatMap textB) ++ lowB v.l[i].size 2 ++ bytesOf v.l[i] := by
        rw [List.take_succ_eq_append_getElem hlt', List.flatMap_append]
        simp [textB]
      rw [et, List.flatMap_append, List.flatMap_append, List.length_append, List.length_append, lowB_len, bytesOf_len]
      exact ho7
    · obtain rfl : i = v.l.length := by omega
      rw [List.take_length] at ho
      have ew : f.written v = lowB v.l.length 1 ++ v.l.flatMap textB := by unfold GFd.written; rw [if_neg h1, if_neg h2]
      rw [← ew] at ho
      exact ⟨F, ho, fun g hg => by have := hF g hg; have := hk.size; omega, hk.then hk4 (by simp)⟩
end Go.Proofs.YtclojjiiiejfpaaDoor
