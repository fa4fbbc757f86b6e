import Derived.Test.YtoanmeohlpdjfaaDoorXcCodeE
import Derived.Test.YtoanmeohlpdjfaaDoorXCopyM
namespace Go.Proofs.YtoanmeohlpdjfaaDoor
set_option linter.unusedSimpArgs false
set_option linter.unusedVariables false
set_option maxRecDepth 100000
attribute [local irreducible] Go.X.xE
open Go Go.X Go.RowKit

/-! ## CodeDelta -/
theorem set_mix {k i s t y : Nat} {B : List (List UInt8)} {b' : List UInt8} (hB : B.length = k) (ht : t < k) (hy : y < s) :
    (mixP (crow k i) (B.set t b') s).getD y 0 = (mixP (crow k i) B s).getD y 0 ^^^ umul (coef k i t) ((B.getD t []).getD y 0 ^^^ b'.getD y 0) := by
  rw [mixP_get hy, mixP_get hy, List.length_set, hB]
  have e : (fun j => ((B.set t b').getD j []).getD y 0) = fun j => (B.getD j []).getD y 0 ^^^ if j = t then (B.getD t []).getD y 0 ^^^ b'.getD y 0 else 0 := funext fun j => by
    rw [List.getD_eq_getElem?_getD (l := B.set t b'), List.getElem?_set]
    by_cases hj : t = j
    · subst hj
      rw [if_pos rfl, if_pos (by omega), if_pos rfl, ← xor_assoc8, xor_self8, zero_xor8]
      rfl
    · rw [if_neg hj, if_neg (fun e => hj e.symm), xor_zero8, ← List.getD_eq_getElem?_getD]
  rw [e, lin_xor]
  congr 1
  rw [lin_crow, xsum_single (a := t) List.nodup_range (List.mem_range.2 ht) fun b _ hb => by rw [if_neg hb, umul_zero], if_pos rfl]
theorem zeros_get (n j : Nat) : (List.replicate n (0 : UInt8)).getD j 0 = 0 := by
  rw [List.getD_eq_getElem?_getD, List.getElem?_replicate]
  split <;> rfl
theorem kindR {e : Er} {w : World} {K : Value → World → Prop} (hp : Er.plain e) (hg : Glob w) (k : ∀ w', Kept [] w w' → K (.int .i64 e.kind) w') : xE Tryd.prog (sCall 13 #[erV e]) w K :=
  xE_call CF_13 (kind_ok hp hg) (fun u w' ⟨h1, h2⟩ => by subst h1; exact k w' h2)
theorem cdelta_ok {k n size block : Int} {b now : List UInt8} {vb vn : Value} {w : World} (hg : Glob w) (hb : SlT w encB vb b) (hnow : SlT w encB vn now) :
    Gives Tryd.prog 10 #[.int .i64 k, .int .i64 n, .int .i64 size, .int .i64 block, vb, vn] w fun u w' => u = .bool true ∧ Kept [] w w' := by
  refine C_stavelaw4_CodeDelta ?_
  unfold S_stavelaw4_CodeDelta
  refine withinN (by omega) (by omega) (by omega) fun kk hk1 hk8 => ?_
  refine withinN (by omega) (by omega) (by omega) fun nn hn1 hn8 => ?_
  refine newS (by omega) (by omega) (by omega) fun p f cv w1 hC hkc => ?_
  simp only [xP_ex0, xP_ex1]
  refine madeT fun _ => ?_
  simp only [List.getD_cons_zero, xIf_false]
  refine withinN (by omega) (by omega) (by omega) fun s hs1 hs12 => ?_
  refine madeS (hb.kept0 hkc) (by omega) (by omega) fun bv rs G w2 ho2 hr2 hk2 => ?_
  have hBl := madeP_len kk s b
  have hBr := @madeP_rows kk s b
  generalize madeP kk s b = B at *
  have hR2 : RowsT w2 bv B := by rw [← hr2]; exact ho2.rows
  have hrl : rs.length = kk := by have := congrArg List.length hr2; rwa [List.length_map, hBl] at this
  have hC2 := hC.kept0 hk2
  have hk02 := hkc.then hk2 (by simp)
  simp only [xP_nil, xP_pick, xP_func, xP_not, xP_add, xP_sub, xP_mul, xP_lss, xP_leq, xP_gtr, xP_geq, xP_max2, xP_min2, xR_eql, xR_neq, Nat.zero_add, Nat.add_zero, Nat.reduceAdd, List.getD_cons_zero, List.getD_cons_succ, xIf_true, xIf_false, FA_35_0, FA_35_1, FA_66_0, FA_66_1, FA_66_2, FA_82_0, FA_82_1, FA_82_2, FA_86_0, FA_86_1, LEN_29, LEN_32, LEN_47, LEN_48, LEN_79, LEN_116]
  rw [wrap64 (by omega) (by omega)]
  refine withinN (by omega) (by omega) (by omega) fun x hx0 hx1 => ?_
  have hxk : x < kk := by omega
  refine (outRow ho2 (by omega)).2 ?_
  have hm : rs.getD x dRq ∈ rs := by rw [getD_lt (by omega)]; exact List.getElem_mem _
  have hrow : (rs.getD x dRq).x = B.getD x [] := rowX hr2 (by omega)
  have hrowl : (B.getD x []).length = s := by rw [getD_lt (by omega)]; exact hBr _ (List.getElem_mem _)
  have hwas2 : SlT w2 encB (rs.getD x dRq).v (B.getD x []) := by rw [← hrow]; exact (ho2.ok _ hm).slT
  generalize (rs.getD x dRq).v = wv at *
  generalize hwas : B.getD x [] = was at *
  refine xE_copy0 EL_32 encB_len encB_one8 hwas2 (by omega) (by unfold maxLen; omega) fun nv w3 Fn hon hFn hk3 => ?_
  refine xE_copyM SL_32 SZ_5 hon (by omega) ((hnow.kept0 hk02).kept0 hk3) fun w4 _ hn4 hk4 _ => ?_
  have hk24 : Kept [] w2 w4 := hk3.then hk4 (fun g hg => .inr (hFn g hg))
  have hnl : (over was now).length = s := by rw [over_len, hrowl]
  generalize over was now = nxt at *
  have hC4 := hC2.kept0 hk24
  refine encG hC4 (hR2.kept0 hk24) hBl hBr (by omega) fun lv w5 hL5 hk5 => ?_
  simp only [xP_ex0, xP_ex1]
  have hk25 := hk24.then hk5 (by simp)
  have ho5 := ho2.kept0 hk25
  have hown := ho5.own
  rw [hrl] at hown
  obtain ⟨gb, ob, cb, hbe, hGe⟩ := hown.ex (by omega)
  have hoks := ho5.ok
  rw [hbe] at hown ⊢
  refine xE_slice0 EL_29 fun w6 ho6 hk6 hz6 => ?_
  refine xE_append (m := kk) EL_29 ho6 ((hown.kept hk6 (by simp)).at_.2) (by rw [List.length_map]; omega) (fun u hu => by
    obtain ⟨r, hr, rfl⟩ := List.mem_map.1 hu
    exact (hoks r hr).one) (by omega) (by unfold maxLen; omega) (by omega) fun tv w7 Ft hot hk7 hFt _ => ?_
  rw [Nat.zero_add, List.nil_append] at hot
  obtain ⟨gt, ot, ct, hte, hFte⟩ := hot.ex (by omega)
  have hk57 : Kept [] w5 w7 := hk6.then hk7 (fun g hg => by simp at hg; exact .inr (by omega))
  have hFt5 : ∀ g ∈ Ft, w5.heap.size ≤ g := fun g hg => (hFt g hg).elim (fun h => by simp at h; omega) (fun h => by have := hk6.size; omega)
  rw [hte] at hot ⊢
  refine (xP_IAn SL_29 SZ_32 hxk).2 ?_
  rw [Nat.mul_one]
  refine xE_storeOwn SZ_32 hot (by rw [List.length_map]; omega) (SlT.oneP hn4) fun w8 ho8 hk8 hz8 => ?_
  have hk58 : Kept [] w5 w8 := hk57.then hk8 (fun g hg => .inr (hFt5 g hg))
  have hk28 := hk25.then hk58 (by simp)
  have hk48 := hk5.then hk58 (by simp)
  have hn8 := hn4.kept0 hk48
  have hT8 : RowsT w8 (.slice (some ⟨gt, ot, none⟩) kk ct) (B.set x nxt) := by
    refine ⟨(rs.map fun r => (r.v, r.x)).set x (nv, nxt), ?_, fun r hr => ?_, by rw [List.map_set, List.map_map]; show (rs.map Rq.x).set x nxt = _; rw [hr2]⟩
    · have e : (rs.map Rq.v).set x nv = ((rs.map fun r => (r.v, r.x)).set x (nv, nxt)).flatMap encW := by
        have : ∀ l : List (Value × List UInt8), l.flatMap encW = l.map (·.1) := fun l => by
          induction l with
          | nil => rfl
          | cons a l ih => rw [List.flatMap_cons, ih]; rfl
        rw [this, List.map_set, List.map_map]
        rfl
      rw [e] at ho8
      exact Own.slT (sz := 1) (l := (rs.map fun r => (r.v, r.x)).set x (nv, nxt)) (enc := encW) (by rw [List.length_set, List.length_map, hrl]; exact ho8) (fun _ => rfl) (by omega)
    · rcases List.mem_or_eq_of_mem_set hr with hr | rfl
      · obtain ⟨q, hq, rfl⟩ := List.mem_map.1 hr
        exact ((hoks q hq).kept0 hk58).slT
      · exact hn8
  have hsetr : ∀ r ∈ B.set x nxt, r.length = s := fun r hr => by
    rcases List.mem_or_eq_of_mem_set hr with hr | rfl
    · exact hBr r hr
    · exact hnl
  refine encG (hC2.kept0 hk28) hT8 (by rw [List.length_set, hBl]) hsetr (by omega) fun mv w9 hM9 hk9 => ?_
  simp only [xP_ex0, xP_ex1]
  have hL9 := (hL5.kept0 hk58).kept0 hk9
  have hk29 := hk28.then hk9 (by simp)
  have hk09 := hk02.then hk29 (by simp)
  have hC9 := hC2.kept0 hk29
  have hwas9 := hwas2.kept0 hk29
  have hn9 := hn8.kept0 hk9
  refine xJoin_of (fun ls w' => ls = [.bool false] ∧ w9 = w') ?_ ?_
  · refine (xR_neqN IFE).2 ?_
    simp only [xIf_false]
    refine (xR_neqN IFE).2 ?_
    simp only [xIf_false]
    refine (rowsLen hL9).2 ?_
    rw [encP_len]
    simp only [xP_nil, xP_pick, xP_func, xP_not, xP_add, xP_sub, xP_mul, xP_lss, xP_leq, xP_gtr, xP_geq, xP_max2, xP_min2, xR_eql, xR_neq, Nat.zero_add, Nat.add_zero, Nat.reduceAdd, List.getD_cons_zero, List.getD_cons_succ, xIf_true, xIf_false, FA_35_0, FA_35_1, FA_66_0, FA_66_1, FA_66_2, FA_82_0, FA_82_1, FA_82_2, FA_86_0, FA_86_1, LEN_29, LEN_32, LEN_47, LEN_48, LEN_79, LEN_116, ne_eq, not_true_eq_false, decide_false]
    refine (rowsLen hM9).2 ?_
    rw [encP_len]
    simp only [xP_nil, xP_pick, xP_func, xP_not, xP_add, xP_sub, xP_mul, xP_lss, xP_leq, xP_gtr, xP_geq, xP_max2, xP_min2, xR_eql, xR_neq, Nat.zero_add, Nat.add_zero, Nat.reduceAdd, List.getD_cons_zero, List.getD_cons_succ, xIf_true, xIf_false, FA_35_0, FA_35_1, FA_66_0, FA_66_1, FA_66_2, FA_82_0, FA_82_1, FA_82_2, FA_86_0, FA_86_1, LEN_29, LEN_32, LEN_47, LEN_48, LEN_79, LEN_116, ne_eq, not_true_eq_false, decide_false]
    exact ⟨by trivial, by trivial⟩
  rintro _ _ _ ⟨rfl, rfl⟩
  simp only [List.getD_cons_zero, xIf_false]
  refine (rowsLen hL9).2 ?_
  rw [encP_len]
  refine xLoop_of (fun ls w' => ∃ t : Nat, ls = [.int .i64 t] ∧ t ≤ nn ∧ Kept [] w9 w') (fun ls _ => match ls with | [.int _ i] => nn - i.toNat | _ => 0) ⟨0, rfl, by omega, Kept.refl _ _⟩ ?_
  rintro _ _ w10 ⟨t, rfl, ht, hk10⟩
  simp only [xP_nil, xP_pick, xP_func, xP_not, xP_add, xP_sub, xP_mul, xP_lss, xP_leq, xP_gtr, xP_geq, xP_max2, xP_min2, xR_eql, xR_neq, Nat.zero_add, Nat.add_zero, Nat.reduceAdd, List.getD_cons_zero, List.getD_cons_succ, xIf_true, xIf_false, FA_35_0, FA_35_1, FA_66_0, FA_66_1, FA_66_2, FA_82_0, FA_82_1, FA_82_2, FA_86_0, FA_86_1, LEN_29, LEN_32, LEN_47, LEN_48, LEN_79, LEN_116, xIf_dec]
  refine ⟨fun hlt => ?_, fun hge => ?_⟩
  · have htn : t < nn := by omega
    refine xE_call CF_25 (delta_ok (hC9.kept0 hk10) (hwas9.kept0 hk10) (hn9.kept0 hk10) htn hxk (by rw [hrowl, hnl]) (by omega)) ?_
    rintro _ w11 ⟨z, rfl, hz, hk11⟩
    simp only [xP_ex0, xP_ex1]
    have hl0 : (List.replicate was.length (0 : UInt8)).length = was.length := List.length_replicate
    have hl1 : (mulAdd (List.replicate was.length 0) was (coef kk t x)).length = s := by rw [mulAdd_len hl0, hl0, hrowl]
    have hl2 : (mulAdd (mulAdd (List.replicate was.length 0) was (coef kk t x)) nxt (coef kk t x)).length = s := by rw [mulAdd_len (by rw [hl1, hnl]), hl1]
    have hk9b := hk10.then hk11 (by simp)
    refine xJoin_of (fun ls w' => ls = [.bool false] ∧ w11 = w') ?_ ?_
    · refine (xR_neqN IFE).2 ?_
      simp only [xIf_false]
      refine (bytesLen hz).2 ?_
      refine (bytesLen hwas9).2 ?_
      rw [hl2, hrowl]
      simp only [xP_nil, xP_pick, xP_func, xP_not, xP_add, xP_sub, xP_mul, xP_lss, xP_leq, xP_gtr, xP_geq, xP_max2, xP_min2, xR_eql, xR_neq, Nat.zero_add, Nat.add_zero, Nat.reduceAdd, List.getD_cons_zero, List.getD_cons_succ, xIf_true, xIf_false, FA_35_0, FA_35_1, FA_66_0, FA_66_1, FA_66_2, FA_82_0, FA_82_1, FA_82_2, FA_86_0, FA_86_1, LEN_29, LEN_32, LEN_47, LEN_48, LEN_79, LEN_116, ne_eq, not_true_eq_false, decide_false]
      exact ⟨by trivial, by trivial⟩
    rintro _ _ _ ⟨rfl, rfl⟩
    simp only [List.getD_cons_zero, xIf_false]
    refine (bytesLen hz).2 ?_
    rw [hl2]
    refine xLoop_of (fun ls w' => ∃ j : Nat, ls = [.int .i64 j] ∧ j ≤ s ∧ Kept [] w11 w') (fun ls _ => match ls with | [.int _ j] => s - j.toNat | _ => 0) ⟨0, rfl, by omega, Kept.refl _ _⟩ ?_
    rintro _ _ w12 ⟨j, rfl, hj, hk12⟩
    try simp only [xP_nil, xP_pick, xP_func, xP_not, xP_add, xP_sub, xP_mul, xP_lss, xP_leq, xP_gtr, xP_geq, xP_max2, xP_min2, xR_eql, xR_neq, Nat.zero_add, Nat.add_zero, Nat.reduceAdd, List.getD_cons_zero, List.getD_cons_succ, xIf_true, xIf_false, FA_35_0, FA_35_1, FA_66_0, FA_66_1, FA_66_2, FA_82_0, FA_82_1, FA_82_2, FA_86_0, FA_86_1, LEN_29, LEN_32, LEN_47, LEN_48, LEN_79, LEN_116, xIf_dec]
    refine ⟨fun hlj => ?_, fun hgj => ?_⟩
    · have hjs : j < s := by omega
      have hd := hk12.then (kept_drew [] w12) (by simp)
      have hd9 := hk9b.then hd (by simp)
      refine cellAt hL9 hd9 (by rw [encP_len]; exact htn) (by rw [encP_get htn, mixP_len]; exact hjs) ?_
      refine (byteAt (hz.kept0 hd) (by rw [hl2]; exact hjs)).2 ?_
      rw [xP_xor8]
      refine cellAt hM9 hd9 (by rw [encP_len]; exact htn) (by rw [encP_get htn, mixP_len]; exact hjs) ?_
      rw [encP_get htn, encP_get htn, set_mix hBl hxk hjs, hwas, mulAdd_get (by rw [hl1, hnl]), mulAdd_get hl0, zeros_get, zero_xor8, ← umul_xor]
      simp only [xP_nil, xP_pick, xP_func, xP_not, xP_add, xP_sub, xP_mul, xP_lss, xP_leq, xP_gtr, xP_geq, xP_max2, xP_min2, xR_eql, xR_neq, Nat.zero_add, Nat.add_zero, Nat.reduceAdd, List.getD_cons_zero, List.getD_cons_succ, xIf_true, xIf_false, FA_35_0, FA_35_1, FA_66_0, FA_66_1, FA_66_2, FA_82_0, FA_82_1, FA_82_2, FA_86_0, FA_86_1, LEN_29, LEN_32, LEN_47, LEN_48, LEN_79, LEN_116, ne_eq, not_true_eq_false, decide_false]
      rw [wrap64 (by omega) (by omega)]
      exact ⟨⟨j + 1, rfl, by omega, hd⟩, by omega⟩
    · try simp only [xP_nil, xP_pick, xP_func, xP_not, xP_add, xP_sub, xP_mul, xP_lss, xP_leq, xP_gtr, xP_geq, xP_max2, xP_min2, xR_eql, xR_neq, Nat.zero_add, Nat.add_zero, Nat.reduceAdd, List.getD_cons_zero, List.getD_cons_succ, xIf_true, xIf_false, FA_35_0, FA_35_1, FA_66_0, FA_66_1, FA_66_2, FA_82_0, FA_82_1, FA_82_2, FA_86_0, FA_86_1, LEN_29, LEN_32, LEN_47, LEN_48, LEN_79, LEN_116]
      rw [wrap64 (by omega) (by omega)]
      exact ⟨⟨t + 1, rfl, by omega, hk9b.then hk12 (by simp)⟩, by omega⟩
  · have hCA := hC9.kept0 hk10
    have hwA := hwas9.kept0 hk10
    have hnA := hn9.kept0 hk10
    have hk0A := hk09.then hk10 (by simp)
    refine xE_call CF_25 (delta_bad hCA hwA hnA (a := (nn : Nat)) (b := (x : Nat)) (by omega)) ?_
    rintro _ w11 ⟨rfl, hk11⟩
    simp only [xP_ex0, xP_ex1]
    refine xE_call CF_25 (delta_bad (hCA.kept0 hk11) (hwA.kept0 hk11) (hnA.kept0 hk11) (a := 0) (b := (kk : Nat)) (by omega)) ?_
    rintro _ w12 ⟨rfl, hk12⟩
    simp only [xP_ex0, xP_ex1]
    have hkA12 := hk11.then hk12 (by simp)
    have hnB := hnA.kept0 hkA12
    have hnB0 := hnB
    obtain ⟨na, nc, rfl, hnc, _⟩ := hnB
    refine (xP_from (i := 1) SL_32 SZ_5 (by omega) (by omega)).2 ?_
    have hf1 := SlT.from1 encB_len hnB0 (by omega)
    refine xE_call CF_25 (delta_bad (hCA.kept0 hkA12) (hwA.kept0 hkA12) hf1 (a := 0) (b := (x : Nat)) (by rw [List.length_drop]; omega)) ?_
    rintro _ w13 ⟨rfl, hk13⟩
    simp only [xP_ex0, xP_ex1]
    have hk0D := (hk0A.then hkA12 (by simp)).then hk13 (by simp)
    refine kindR trivial (hg.kept0 hk0D) fun w14 hk14 => ?_
    simp only [Er.kind, xR_eql, decide_true, xIf_true]
    have hk0E := hk0D.then hk14 (by simp)
    refine kindR trivial (hg.kept0 hk0E) fun w15 hk15 => ?_
    simp only [Er.kind, xR_eql, decide_true, xIf_true]
    have hk0F := hk0E.then hk15 (by simp)
    refine kindR trivial (hg.kept0 hk0F) fun w16 hk16 => ?_
    simp only [Er.kind, xR_eql, decide_true, xIf_true]
    exact cRunsG hg (hk0F.then hk16 (by simp))
end Go.Proofs.YtoanmeohlpdjfaaDoor
