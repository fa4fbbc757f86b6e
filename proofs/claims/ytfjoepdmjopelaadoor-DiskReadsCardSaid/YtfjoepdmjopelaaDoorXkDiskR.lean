import Derived.Test.YtfjoepdmjopelaaDoorXkDisk5
import Derived.Test.YtfjoepdmjopelaaDoorXkFaultP3
namespace Go.Proofs.YtfjoepdmjopelaaDoor
set_option linter.unusedSimpArgs false
set_option linter.unusedVariables false
set_option maxRecDepth 100000
attribute [local irreducible] Go.X.xE
open Go Go.X Go.RowKit

/-! ## DiskReads -/
theorem filt_len (p : Nat → Bool) (k : Nat) : ∀ n, ((List.range n).filter fun j => p j || decide (j = k)).length = ((List.range n).filter p).length + if k < n ∧ p k = false then 1 else 0
  | 0 => by simp
  | n + 1 => by
    rw [List.range_succ, List.filter_append, List.filter_append, List.length_append, List.length_append, filt_len p k n]
    by_cases hk : k = n
    · subst hk
      cases hp : p k with
      | true => simp [hp]
      | false => simp [hp]
    · have h1 : decide (n = k) = false := decide_eq_false (fun e => hk e.symm)
      have e1 : [n].filter (fun j => p j || decide (j = k)) = [n].filter p := by
        simp only [List.filter_cons, List.filter_nil, h1, Bool.or_false]
      rw [e1]
      have e2 : (k < n + 1 ∧ p k = false) ↔ (k < n ∧ p k = false) := and_congr_left fun _ => by omega
      simp only [e2]
      omega
theorem write_ws (D : Dk) (k : Nat) (b : List UInt8) (hk : k < D.sec.length) : (D.write k b).ws.length = if (D.wt k).isSome then D.ws.length else D.ws.length + 1 := by
  have e : (D.write k b).ws = (List.range D.sec.length).filter fun j => (D.wt j).isSome || decide (j = k) := by
    unfold Dk.ws Dk.write
    simp only
    congr 1
    funext j
    by_cases h : j = k
    · rw [if_pos h]; simp [h]
    · rw [if_neg h]; simp [h]
  rw [e, filt_len]
  unfold Dk.ws
  cases hs : (D.wt k).isSome <;> simp [hk]
theorem dreads_ok {i short : Int} {l : List DA} {v : Value} {w : World} (hgl : Glob w) (hl : SlT w encA v l) :
    Gives Tryd.prog 3 #[v, .int .i64 i, .int .i64 short] w fun u w' => u = .bool true ∧ Kept [] w w' := by
  refine C_stavelaw6_DiskReads ?_
  unfold S_stavelaw6_DiskReads
  obtain ⟨la, lc, rfl, hlc, hlr⟩ := hl
  have hl : SlT w encA (.slice la l.length lc) l := ⟨la, lc, rfl, hlc, hlr⟩
  refine newD (by omega) (by omega) fun p w1 h1 _ => ?_
  simp only [xP_ex0, xP_ex1]
  refine madeT fun _ => ?_
  simp only [List.getD_cons_zero, xIf_false]
  refine xE_alloc Z_28 fun w2 hb2 hk2 hz2 => ?_
  refine xE_makeMap (val := Value.bool) MP_29 (.inl rfl) fun w3 hm3 hk3 hz3 => ?_
  have hb3 : Blk w3 w1.heap.size 28 ((List.replicate 5 (0 : UInt8)).flatMap encB) := Blk.kept hb2 hk3 (by simp)
  have hz1 := h1.k0.size
  have h3 : DX w w3 p (Dk.new 5) [w1.heap.size, w2.heap.size] := h1.more (hk2.then hk3 (by simp)) (fun g hg => by simp at hg; rcases hg with rfl | rfl <;> exact ⟨.inr (by omega), by omega⟩)
  have hHm : w1.heap.size ≠ w2.heap.size := by omega
  have hHw : w.heap.size ≤ w1.heap.size := hz1
  have hMw : w.heap.size ≤ w2.heap.size := by omega
  generalize w1.heap.size = H at *
  generalize w2.heap.size = Wm at *
  clear hb2
  refine xLoop_of (fun ls w' => ∃ (j : Nat) (D : Dk) (hs : List UInt8) (Wm : Nat) (L : List (Int × Bool)), ls = [.map (some Wm), .int .i64 j] ∧ j ≤ l.length ∧ j ≤ 30 ∧ hs.length = 5 ∧ H ≠ Wm ∧ w.heap.size ≤ Wm ∧ DX w w' p D [H, Wm] ∧ Blk w' H 28 (hs.flatMap encB) ∧ MapOf w' Wm Value.bool L ∧ L.length = D.ws.length ∧ (∀ k : Nat, (mget L (k : Int)).isSome = (D.wt k).isSome) ∧ D.dead = false ∧ D.sec.length = 5 ∧ Rd D 5 hs)
    (fun ls _ => match ls with | [_, .int _ j] => 30 - j.toNat | _ => 0) ⟨0, Dk.new 5, List.replicate 5 0, Wm, [], rfl, by omega, by omega, by simp, hHm, hMw, h3, hb3, hm3, rfl, fun k => rfl, rfl, by simp [Dk.new], (new_read 5).1⟩ ?_
  clear hm3 hb3 h3 hHm hMw
  rintro _ _ w4 ⟨j, D, hs, Wm, L, rfl, hj, hj30, hhs, hHm, hMw, h4, hbH, hmL, hlen, hiso, hd, hsl, hrd⟩
  refine askT fun _ => ?_
  simp only [List.getD_cons_zero, List.getD_cons_succ, xIf_dec]
  refine ⟨fun hgo => ?_, fun hstop => ?_⟩
  · have hil := hgo.1
    refine rowDA.fldA hl h4.k0 hil (show fieldB Tryd.prog 33 1 1 = true by kernel_rfl) ONE_3 (u := .int .i64 (l[j]).i) rfl fun A1 _ => ?_
    refine withinN (by omega) (by omega) (by omega) fun k _ _ hk4 => ?_
    refine xJoin_of (fun ls w' => ∃ (D : Dk) (hs : List UInt8) (Wm : Nat) (L : List (Int × Bool)), ls = [.map (some Wm)] ∧ hs.length = 5 ∧ H ≠ Wm ∧ w.heap.size ≤ Wm ∧ DX w w' p D [H, Wm] ∧ Blk w' H 28 (hs.flatMap encB) ∧ MapOf w' Wm Value.bool L ∧ L.length = D.ws.length ∧ (∀ k : Nat, (mget L (k : Int)).isSome = (D.wt k).isSome) ∧ D.dead = false ∧ D.sec.length = 5 ∧ Rd D 5 hs) ?_ ?_
    · refine rowDA.fldA hl h4.k0 hil (show fieldB Tryd.prog 33 0 0 = true by kernel_rfl) ONE_3 (u := .int .i64 (l[j]).kind) rfl fun A0 _ => ?_
      simp only [xR_eql, xIf_dec]
      refine ⟨fun _ => ?_, fun _ => ?_⟩
      · refine flushG h4 hd fun w5 M5 h5 hk5 hM5 => ?_
        have hbH5 := hbH.kept hk5 (fun hm => hM5 H hm (by simp))
        refine (xR_neqN IFE).2 ?_
        simp only [xIf_false]
        refine xE_makeMap (val := Value.bool) MP_29 (.inl rfl) fun w6 hm6 hk6 hz6 => ?_
        have hHl := h5.lt H (by simp)
        have hz5 := h5.k0.size
        refine ⟨D.flush, hs, w5.heap.size, [], rfl, hhs, by omega, hz5, h5.more hk6 (fun g hg => ?_), hbH5.kept hk6 (by simp), hm6, by rw [show D.flush.ws = [] from drain_ws _ _]; rfl, fun k => rfl, hd, by unfold Dk.flush; rw [drain_len]; exact hsl, fun k hk => by rw [flush_read D (by omega)]; exact hrd k hk⟩
        simp at hg
        rcases hg with rfl | rfl
        · exact ⟨.inl (by simp), by omega⟩
        · exact ⟨.inr (Nat.le_refl _), by omega⟩
      · refine rowDA.fldA hl h4.k0 hil (show fieldB Tryd.prog 33 3 3 = true by kernel_rfl) ONE_5 (u := .int .u8 (l[j]).x.toNat) rfl fun A2 _ => ?_
        refine sectorS fun sv w5 hsv hk5 _ => ?_
        refine writeG (h4.next hk5) hsv (all_len _) hd (by omega) fun w6 M6 h6 hk6 hM6 => ?_
        refine (xR_neqN IFE).2 ?_
        simp only [xIf_false]
        refine rowDA.fldA hl h6.k0 hil (show fieldB Tryd.prog 33 3 3 = true by kernel_rfl) ONE_5 (u := .int .u8 (l[j]).x.toNat) rfl fun A3 _ => ?_
        generalize (l[j]).x = x at *
        refine (xP_IAarr ARR5 SZ_5 (show k < 5 by omega)).2 ?_
        rw [Nat.zero_add, Nat.mul_one]
        have hb6 := (hbH.kept hk5 (by simp)).kept hk6 (fun hm => hM6 H hm (by simp))
        have hm6 := (hmL.kept hk5 (by simp)).kept hk6 (fun hm => hM6 Wm hm (by simp))
        refine xE_store1 SZ_5 hb6 (by rw [flat_len encB_len]; omega) rfl fun w7 hb7 hk7 hz7 => ?_
        rw [flip_set] at hb7
        refine xE_mapUpdate MP_29 (hm6.kept hk7 (by simp; exact fun e => hHm e.symm)) (v := true) rfl fun w8 hm8 hk8 hz8 => ?_
        have hk68 : Kept [H, Wm] w6 w8 := (hk7.mono (by simp)).then hk8 (by simp)
        refine ⟨D.write k (all x), hs.set k x, Wm, mset L (k : Int) true, rfl, by rw [List.length_set, hhs], hHm, hMw, h6.own hk68 (fun g hg => hg) (by simp; exact ⟨hHw, hMw⟩) (fun g hg => ⟨.inl hg, by have := h6.lt g hg; omega⟩), hb7.kept hk8 (by simp; exact hHm), hm8, ?_, fun y => ?_, hd, hsl, hrd.write hhs⟩
        · rw [mset_len, write_ws D k _ (by omega), hiso k, hlen]
        · rw [mget_set]
          unfold Dk.write
          simp only
          by_cases hy : (k : Int) = y
          · rw [if_pos hy, if_pos (show y = k by omega)]; rfl
          · rw [if_neg hy, if_neg (show ¬ y = k by omega)]; exact hiso y
    clear hrd hsl hd hiso hlen hmL hbH h4 hhs
    rintro _ _ w5 ⟨D, hs, Wm, L, rfl, hhs, hHm, hMw, h5, hbH, hmL, hlen, hiso, hd, hsl, hrd⟩
    have hk5' : k < 5 := by omega
    refine readG h5 hd (by omega) fun b w6 X6 h6 hk6 hX6 hb6 => ?_
    rw [hrd k hk5'] at hb6
    have hbH6 := hbH.kept hk6 (by simp)
    have hmL6 := hmL.kept hk6 (by simp)
    simp only [xP_ex0, xP_ex1, List.getD_cons_zero]
    refine xJoin_of (fun ls w' => ls = [.bool false] ∧ Kept [] w6 w') ?_ ?_
    · refine (xR_neqN IFE).2 ?_
      simp only [xIf_false]
      refine (xP_IAarr ARR5 SZ_5 hk5').2 ?_
      rw [Nat.zero_add, Nat.mul_one]
      refine (ld1 ONE_5 ((hbH6.cell (o := k)).trans (getD_cell (by omega)))).2 ?_
      refine sectorS fun sv w7 hsv hk7 _ => ?_
      refine sameBS (hb6.kept0 hk7).1 hsv (by rw [all_len]; omega) fun w8 hk8 => ?_
      have hk68 := hk7.then hk8 (by simp)
      simp only [decide_true, xP_not, Bool.not_true, xIf_false]
      refine waitsD (h6.next hk68) fun wv w9 hwv hk9 _ => ?_
      obtain ⟨wa, wc, rfl, _, _⟩ := hwv
      have hk69 := hk68.then hk9 (by simp)
      simp only [xP_nil, xP_pick, xP_func, xP_not, xP_add, xP_sub, xP_mul, xP_lss, xP_leq, xP_gtr, xP_geq, xP_max2, xP_min2, xR_eql, xR_neq, Nat.zero_add, Nat.add_zero, Nat.reduceAdd, List.getD_cons_zero, List.getD_cons_succ, xIf_true, xIf_false, FA_33_0, FA_33_1, FA_33_3, FA_53_0, FA_53_1, FA_53_2, FA_53_3, FA_61_0, FA_61_1, FA_61_2, LEN_22, LEN_36, LEN_41, LEN_50, LEN_58, LEN_94]
      refine (xR_lenM MP_29 (hmL6.kept hk69 (by simp))).2 ?_
      rw [hlen, show (intsOf D.ws).length = D.ws.length by simp [intsOf]]
      simp only [xR_neq, ne_eq, not_true_eq_false, decide_false]
      exact ⟨trivial, hk69⟩
    rintro _ _ w7 ⟨rfl, hk7⟩
    try simp only [xP_nil, xP_pick, xP_func, xP_not, xP_add, xP_sub, xP_mul, xP_lss, xP_leq, xP_gtr, xP_geq, xP_max2, xP_min2, xR_eql, xR_neq, Nat.zero_add, Nat.add_zero, Nat.reduceAdd, List.getD_cons_zero, List.getD_cons_succ, xIf_true, xIf_false, FA_33_0, FA_33_1, FA_33_3, FA_53_0, FA_53_1, FA_53_2, FA_53_3, FA_61_0, FA_61_1, FA_61_2, LEN_22, LEN_36, LEN_41, LEN_50, LEN_58, LEN_94]
    rw [wrap64 (by omega) (by omega)]
    have h7 := h6.next hk7
    refine ⟨⟨j + 1, D, hs, Wm, L, rfl, by omega, by omega, hhs, hHm, hMw, h7.own (Kept.refl [] _) (by simp) (by simp) (fun g hg => ⟨.inl (hX6 g hg), h7.lt g (hX6 g hg)⟩), hbH6.kept hk7 (by simp), hmL6.kept hk7 (by simp), hlen, hiso, hd, hsl, hrd⟩, by omega⟩
  refine withinN (by omega) (by omega) (by omega) fun n9 _ _ hn9 => ?_
  refine xP_add.2 ?_
  rw [wrap64 (by omega) (by omega)]
  have hout : D.refK (5 + (n9 : Int)) false = 1 := by
    unfold Dk.refK
    rw [hd, if_neg (by simp), if_pos (by right; right; rw [hsl]; omega)]
  generalize (5 : Int) + (n9 : Int) = out at *
  refine sectorS (x := 1) fun sv w5 hsv hk5 _ => ?_
  refine writeD (h4.next hk5) hsv fun w6 M6 h6 hk6 hM6 => ?_
  have hne : decide ((all 1).length ≠ 128) = false := decide_eq_false (by rw [all_len]; omega)
  rw [hne, hout] at h6 ⊢
  have h6 : DX w w6 p D [H, Wm] := by simpa using h6
  have hbH6 := (hbH.kept hk5 (by simp)).kept hk6 (fun hm => hM6 H hm (by simp))
  have hmL6 := (hmL.kept hk5 (by simp)).kept hk6 (fun hm => hM6 Wm hm (by simp))
  refine withinN (by omega) (by omega) (by omega) fun m _ _ hm127 => ?_
  refine xE_make EL_36 (l := m) (by omega) (by unfold maxLen; omega) fun w7 hb7 hk7 hz7 => ?_
  have hsm : SlT w7 encB (.slice (some ⟨w6.heap.size, 0, none⟩) m m) (List.replicate m 0) := by
    have e : (List.replicate m (0 : UInt8)).flatMap encB = List.replicate m (.int .u8 0) := by rw [flat_B, List.map_replicate]; rfl
    have := slT_blk (enc := encB) (l := List.replicate m (0 : UInt8)) (by rw [e]; exact hb7)
    rwa [List.length_replicate] at this
  refine writeD (h6.next hk7) hsm fun w8 M8 h8 hk8 hM8 => ?_
  have hk1 : D.refK 1 (decide ((List.replicate m (0 : UInt8)).length ≠ 128)) = 1 := by
    unfold Dk.refK
    rw [hd, if_neg (by simp), if_pos (by left; rw [List.length_replicate]; exact decide_eq_true (by omega))]
  rw [hk1] at h8 ⊢
  have h8 : DX w w8 p D [H, Wm] := by simpa using h8
  have hbH8 := (hbH6.kept hk7 (by simp)).kept hk8 (fun hm => hM8 H hm (by simp))
  have hmL8 := (hmL6.kept hk7 (by simp)).kept hk8 (fun hm => hM8 Wm hm (by simp))
  refine readD h8 fun c w9 X9 h9 hk9 _ _ => ?_
  have hkr : D.refK (-1) false = 1 := by
    unfold Dk.refK
    rw [hd, if_neg (by simp), if_pos (by right; left; omega)]
  rw [hkr]
  simp only [xP_ex0, xP_ex1]
  refine xE_call CF_12 (whereO_ok (e := dEr opDW out 1) (fun x hx => by unfold dEr at hx; rw [if_neg (by omega)] at hx; cases hx; exact ⟨trivial, by simp [Er.faults]⟩) (hgl.kept0 h9.k0)) ?_
  rintro _ w10 ⟨rfl, hk10⟩
  have hwh : whereV (optWhere (dEr opDW out 1)) = .tuple #[.string opDW, .int .i64 out, .bool true] := rfl
  rw [hwh]
  simp only [xP_t0, xP_t1, xP_t2]
  have h10 := h9.next hk10
  have hk810 := hk9.then hk10 (by simp)
  refine xJoin_of (fun ls w' => ls = [.bool false] ∧ Kept [] w10 w') ?_ ?_
  · refine kindD (hgl.kept0 h10.k0) fun w11 hk11 => ?_
    simp only [xR_neq, ne_eq, not_true_eq_false, decide_false, xIf_false, xP_not, Bool.not_true]
    refine kindD (hgl.kept0 (h10.next hk11).k0) fun w12 hk12 => ?_
    simp only [xR_neq, ne_eq, not_true_eq_false, decide_false, xIf_false]
    have h12 := (h10.next hk11).next hk12
    refine kindD (hgl.kept0 h12.k0) fun w13 hk13 => ?_
    simp only [xR_neq, ne_eq, not_true_eq_false, decide_false, xIf_false]
    refine waitsD (h12.next hk13) fun wv w14 hwv hk14 _ => ?_
    obtain ⟨wa, wc, rfl, _, _⟩ := hwv
    have hk1014 := ((hk11.then hk12 (by simp)).then hk13 (by simp)).then hk14 (by simp)
    simp only [xP_nil, xP_pick, xP_func, xP_not, xP_add, xP_sub, xP_mul, xP_lss, xP_leq, xP_gtr, xP_geq, xP_max2, xP_min2, xR_eql, xR_neq, Nat.zero_add, Nat.add_zero, Nat.reduceAdd, List.getD_cons_zero, List.getD_cons_succ, xIf_true, xIf_false, FA_33_0, FA_33_1, FA_33_3, FA_53_0, FA_53_1, FA_53_2, FA_53_3, FA_61_0, FA_61_1, FA_61_2, LEN_22, LEN_36, LEN_41, LEN_50, LEN_58, LEN_94]
    refine (xR_lenM MP_29 (hmL8.kept (hk810.then hk1014 (by simp)) (by simp))).2 ?_
    rw [hlen, show (intsOf D.ws).length = D.ws.length by simp [intsOf]]
    simp only [xR_neq, ne_eq, not_true_eq_false, decide_false]
    exact ⟨trivial, hk1014⟩
  rintro _ _ w11 ⟨rfl, hk11⟩
  simp only [List.getD_cons_zero, xIf_false]
  refine readG (i := 1) (h10.next hk11) hd (by omega) fun b w12 X12 h12 hk12 _ hb12 => ?_
  rw [hrd 1 (by omega)] at hb12
  simp only [xP_ex0, xP_ex1]
  refine (xR_eqlN IFE).2 ?_
  simp only [xIf_true]
  refine (xP_IAarr (i := 1) ARR5 SZ_5 (by omega)).2 ?_
  rw [Nat.zero_add, Nat.mul_one]
  refine (ld1 ONE_5 (((hbH8.kept ((hk810.then hk11 (by simp)).then hk12 (by simp)) (by simp)).cell (o := 1)).trans (getD_cell (by omega)))).2 ?_
  refine sectorS fun sv w13 hsv hk13 _ => ?_
  refine sameBS (hb12.kept0 hk13).1 hsv (by rw [all_len]; omega) fun w14 hk14 => ?_
  simp only [decide_true, xIf_true]
  exact dRunsG hgl ((h12.next hk13).next hk14).k0
end Go.Proofs.YtfjoepdmjopelaaDoor
