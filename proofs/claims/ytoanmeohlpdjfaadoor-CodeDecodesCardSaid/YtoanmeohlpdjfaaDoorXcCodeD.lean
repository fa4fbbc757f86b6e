import Derived.Test.YtoanmeohlpdjfaaDoorXcCodeC
namespace Go.Proofs.YtoanmeohlpdjfaaDoor
set_option linter.unusedSimpArgs false
set_option linter.unusedVariables false
set_option maxRecDepth 100000
attribute [local irreducible] Go.X.xE
open Go Go.X Go.RowKit

theorem outRow {w0 w : World} {v : Value} {rs : List Rq} {G : List Nat} {i : Nat} (h : Out 32 5 w0 w v rs G) (hi : i < rs.length) {R : Value → Prop} : (xP Tryd.prog (sIA 29 v (.int .i64 i)) fun u => xR Tryd.prog (sLoad 32 u) w R) ↔ R (rs.getD i dRq).v := by
  have := h.own
  obtain ⟨g, _, _, _, rfl⟩ := this.ex (by omega)
  rw [map_rangeD Rq.v dRq] at this
  exact ownRow this hi
theorem cellAt {w w' : World} {v : Value} {B : List (List UInt8)} {i j : Nat} {R : Value → Prop} (h : RowsT w v B) (hk : Kept [] w w') (hi : i < B.length) (hj : j < (B.getD i []).length) (k : R (.int .u8 ((B.getD i []).getD j 0).toNat)) :
    xP Tryd.prog (sIA 29 v (.int .i64 i)) fun a => xR Tryd.prog (sLoad 32 a) w' fun u => xP Tryd.prog (sIA 32 u (.int .i64 j)) fun b => xR Tryd.prog (sLoad 5 b) w' R := by
  refine h.get rowW hk hi fun u hu => ?_
  exact (byteAt (hu.kept0 hk) hj).2 k
theorem rowsLen {w : World} {v : Value} {B : List (List UInt8)} (h : RowsT w v B) {R : Value → Prop} : xP Tryd.prog (sB .len #[29] #[v]) R ↔ R (.int .i64 B.length) := by
  obtain ⟨a, c, rfl⟩ := h.sl
  exact xP_len SL_29
theorem bytesLen {w : World} {v : Value} {b : List UInt8} (h : SlT w encB v b) {R : Value → Prop} : xP Tryd.prog (sB .len #[32] #[v]) R ↔ R (.int .i64 b.length) := by
  obtain ⟨a, c, rfl, _, _⟩ := h
  exact xP_len SL_32
theorem rowX {rs : List Rq} {L : List (List UInt8)} {i : Nat} (h : rs.map Rq.x = L) (hi : i < rs.length) : (rs.getD i dRq).x = L.getD i [] := by
  subst h
  rw [getD_lt hi, getD_lt (by rw [List.length_map]; exact hi), List.getElem_map]
theorem u8_eq {a b : UInt8} : ((a.toNat : Int) = b.toNat) ↔ a = b := ⟨fun h => UInt8.toNat_inj.1 (by omega), fun h => by rw [h]⟩

/-! ## CodeSystem -/
/-- Of the rows' sums, those ahead of place (i, j). -/
def zRow (s : Nat) (A B : List (List UInt8)) (i j t : Nat) : List UInt8 := (List.range s).map fun y => if t < i ∨ (t = i ∧ y < j) then (A.getD t []).getD y 0 ^^^ (B.getD t []).getD y 0 else 0
def zP (k s : Nat) (A B : List (List UInt8)) (i j : Nat) : List (List UInt8) := (List.range k).map (zRow s A B i j)
theorem zRow_len (s : Nat) (A B : List (List UInt8)) (i j t : Nat) : (zRow s A B i j t).length = s := by simp [zRow]
theorem zP_len (k s : Nat) (A B : List (List UInt8)) (i j : Nat) : (zP k s A B i j).length = k := by simp [zP]
theorem zP_get {k s : Nat} {A B : List (List UInt8)} {i j t : Nat} (h : t < k) : (zP k s A B i j).getD t [] = zRow s A B i j t := by
  unfold zP
  rw [getD_lt (by simpa using h), List.getElem_map, List.getElem_range]
theorem zP_rows {k s : Nat} {A B : List (List UInt8)} {i j : Nat} : ∀ b ∈ zP k s A B i j, b.length = s := by
  intro b hb
  obtain ⟨t, _, rfl⟩ := List.mem_map.1 hb
  exact zRow_len _ _ _ _ _ _
theorem zRow_get {s : Nat} {A B : List (List UInt8)} {i j t y : Nat} (h : y < s) : (zRow s A B i j t).getD y 0 = if t < i ∨ (t = i ∧ y < j) then (A.getD t []).getD y 0 ^^^ (B.getD t []).getD y 0 else 0 := by
  unfold zRow
  rw [getD_lt (by simpa using h), List.getElem_map, List.getElem_range]
theorem zP_zero (k s : Nat) (A B : List (List UInt8)) : madeP k s [] = zP k s A B 0 0 := by
  unfold madeP zP
  refine List.map_congr_left fun t _ => ?_
  unfold madeR zRow
  refine List.map_congr_left fun y _ => ?_
  rw [if_neg (by omega)]
  rfl
theorem zP_next (k s : Nat) (A B : List (List UInt8)) (i : Nat) : zP k s A B i s = zP k s A B (i + 1) 0 := by
  unfold zP
  refine List.map_congr_left fun t _ => ?_
  unfold zRow
  refine List.map_congr_left fun y hy => ?_
  have := List.mem_range.1 hy
  by_cases h : t < i ∨ (t = i ∧ y < s)
  · rw [if_pos h, if_pos (by omega)]
  · rw [if_neg h, if_neg (by omega)]
theorem zRow_set {s : Nat} {A B : List (List UInt8)} {i j : Nat} (h : j < s) : (zRow s A B i j i).set j ((A.getD i []).getD j 0 ^^^ (B.getD i []).getD j 0) = zRow s A B i (j + 1) i := by
  refine ext8 (by rw [List.length_set, zRow_len, zRow_len]) fun y hy => ?_
  rw [List.length_set, zRow_len] at hy
  rw [zRow_get hy, List.getD_eq_getElem?_getD, List.getElem?_set, zRow_len]
  by_cases hjy : j = y
  · subst hjy
    rw [if_pos rfl, if_pos h, if_pos (by omega)]
    rfl
  · rw [if_neg hjy, ← List.getD_eq_getElem?_getD, zRow_get hy]
    by_cases h2 : i < i ∨ (i = i ∧ y < j)
    · rw [if_pos h2, if_pos (by omega)]
    · rw [if_neg h2, if_neg (by omega)]
theorem zP_set {k s : Nat} {A B : List (List UInt8)} {i j : Nat} (hi : i < k) : (zP k s A B i j).set i (zRow s A B i (j + 1) i) = zP k s A B i (j + 1) := by
  refine List.ext_getElem (by rw [List.length_set, zP_len, zP_len]) fun t h1 h2 => ?_
  rw [List.length_set, zP_len] at h1
  have e : ∀ j' (h : t < (zP k s A B i j').length), (zP k s A B i j')[t] = zRow s A B i j' t := fun j' h => by
    have := zP_get (s := s) (A := A) (B := B) (i := i) (j := j') h1
    rwa [getD_lt h] at this
  rw [List.getElem_set, e, e]
  by_cases h : i = t
  · subst h; rw [if_pos rfl]
  · rw [if_neg h]
    unfold zRow
    refine List.map_congr_left fun y _ => ?_
    by_cases h3 : t < i ∨ (t = i ∧ y < j)
    · rw [if_pos h3, if_pos (by omega)]
    · rw [if_neg h3, if_neg (by omega)]
theorem sys_xor {k s i y : Nat} {A B : List (List UInt8)} (hA : A.length = k) (hB : B.length = k) (hy : y < s) : (mixP (crow k i) (zP k s A B k 0) s).getD y 0 = (mixP (crow k i) A s).getD y 0 ^^^ (mixP (crow k i) B s).getD y 0 := by
  rw [mixP_get hy, mixP_get hy, mixP_get hy, hA, hB, zP_len, ← lin_xor]
  refine lin_congr fun j hj => ?_
  rw [zP_get hj, zRow_get hy, if_pos (by omega)]
theorem csystem_ok {k n size : Int} {a b : List UInt8} {va vb : Value} {w : World} (hg : Glob w) (ha : SlT w encB va a) (hb : SlT w encB vb b) :
    Gives Tryd.prog 5 #[.int .i64 k, .int .i64 n, .int .i64 size, va, vb] w fun u w' => u = .bool true ∧ Kept [] w w' := by
  refine C_stavelaw4_CodeSystem ?_
  unfold S_stavelaw4_CodeSystem
  refine withinN (by omega) (by omega) (by omega) fun kk hk1 hk8 => ?_
  refine withinN (by omega) (by omega) (by omega) fun nn hn1 hn8 => ?_
  refine newS (by omega) (by omega) (by omega) fun p f cv w1 hC hkc => ?_
  simp only [xP_ex0, xP_ex1]
  refine madeT fun _ => ?_
  simp only [List.getD_cons_zero, xIf_false]
  refine withinN (by omega) (by omega) (by omega) fun s _ hs12 => ?_
  refine madeS (ha.kept0 hkc) (by omega) (by omega) fun xv rx Gx w2 hox hrx hkx => ?_
  refine madeS ((hb.kept0 hkc).kept0 hkx) (by omega) (by omega) fun yv ry Gy w3 hoy hry hky => ?_
  have hX : RowsT w3 xv (madeP kk s a) := by rw [← hrx]; exact hox.rows.kept0 hky
  have hY : RowsT w3 yv (madeP kk s b) := by rw [← hry]; exact hoy.rows
  have hk03 : Kept [] w w3 := (hkc.then hkx (by simp)).then hky (by simp)
  have hC3 := (hC.kept0 hkx).kept0 hky
  clear hox hoy hrx hry hC
  refine madeS (SlT.nil_ w3 encB) (by omega) (by omega) fun zv rz G w4 hoz hrz hkz => ?_
  have hAl := madeP_len kk s a
  have hBl := madeP_len kk s b
  have hAr := @madeP_rows kk s a
  have hBr := @madeP_rows kk s b
  rw [zP_zero kk s (madeP kk s a) (madeP kk s b)] at hrz
  generalize madeP kk s a = A at *
  generalize madeP kk s b = B at *
  have hAg : ∀ i, i < kk → (A.getD i []).length = s := fun i hi => by rw [getD_lt (by omega)]; exact hAr _ (List.getElem_mem _)
  have hBg : ∀ i, i < kk → (B.getD i []).length = s := fun i hi => by rw [getD_lt (by omega)]; exact hBr _ (List.getElem_mem _)
  refine (rowsLen hoz.rows).2 ?_
  rw [hrz, zP_len]
  refine xLoop_of (fun ls w' => ∃ (i : Nat) (rs : List Rq), ls = [.int .i64 i] ∧ i ≤ kk ∧ Out 32 5 w3 w' zv rs G ∧ rs.map Rq.x = zP kk s A B i 0 ∧ Kept [] w3 w') (fun ls _ => match ls with | [.int _ i] => kk - i.toNat | _ => 0) ⟨0, rz, rfl, by omega, hoz, hrz, hkz⟩ ?_
  rintro _ _ w5 ⟨i, rs, rfl, hi, ho5, hr5, hk5⟩
  simp only [xP_nil, xP_pick, xP_func, xP_not, xP_add, xP_sub, xP_mul, xP_lss, xP_leq, xP_gtr, xP_geq, xP_max2, xP_min2, xR_eql, xR_neq, Nat.zero_add, Nat.add_zero, Nat.reduceAdd, List.getD_cons_zero, List.getD_cons_succ, xIf_true, xIf_false, FA_35_0, FA_35_1, FA_66_0, FA_66_1, FA_66_2, FA_82_0, FA_82_1, FA_82_2, FA_86_0, FA_86_1, LEN_29, LEN_32, LEN_47, LEN_48, LEN_79, LEN_116, xIf_dec]
  refine ⟨fun hlt => ?_, fun hge => ?_⟩
  · have hik : i < kk := by omega
    refine ho5.rows.get rowW (Kept.refl _ _) (by rw [hr5, zP_len]; exact hik) fun u hu => ?_
    rw [hr5, zP_get hik] at hu
    refine (bytesLen hu).2 ?_
    rw [zRow_len]
    refine xLoop_of (fun ls w' => ∃ (j : Nat) (rs : List Rq), ls = [.int .i64 j] ∧ j ≤ s ∧ Out 32 5 w3 w' zv rs G ∧ rs.map Rq.x = zP kk s A B i j ∧ Kept [] w3 w') (fun ls _ => match ls with | [.int _ j] => s - j.toNat | _ => 0) ⟨0, rs, rfl, by omega, ho5, hr5, hk5⟩ ?_
    rintro _ _ w6 ⟨j, rs, rfl, hj, ho6, hr6, hk6⟩
    try simp only [xP_nil, xP_pick, xP_func, xP_not, xP_add, xP_sub, xP_mul, xP_lss, xP_leq, xP_gtr, xP_geq, xP_max2, xP_min2, xR_eql, xR_neq, Nat.zero_add, Nat.add_zero, Nat.reduceAdd, List.getD_cons_zero, List.getD_cons_succ, xIf_true, xIf_false, FA_35_0, FA_35_1, FA_66_0, FA_66_1, FA_66_2, FA_82_0, FA_82_1, FA_82_2, FA_86_0, FA_86_1, LEN_29, LEN_32, LEN_47, LEN_48, LEN_79, LEN_116, xIf_dec]
    refine ⟨fun hlj => ?_, fun hgj => ?_⟩
    · have hjs : j < s := by omega
      have hd6 := kept_drew [] w6
      have hk6d := hk6.then hd6 (by simp)
      have hod := ho6.kept0 hd6
      have hrl : rs.length = kk := by have := congrArg List.length hr6; rwa [List.length_map, zP_len] at this
      refine (outRow hod (by omega)).2 ?_
      refine cellAt hX hk6d (by omega) (by rw [hAg i hik]; exact hjs) ?_
      refine cellAt hY hk6d (by omega) (by rw [hBg i hik]; exact hjs) ?_
      rw [xP_xor8]
      have hm : rs.getD i dRq ∈ rs := by rw [getD_lt (by omega)]; exact List.getElem_mem _
      have hok := hod.ok _ hm
      have hrow : (rs.getD i dRq).x = zRow s A B i j i := by rw [rowX hr6 (by omega), zP_get hik]
      have hxl : (rs.getD i dRq).x.length = s := by rw [hrow, zRow_len]
      have hokk := hok
      unfold Rq.Ok at hok
      rw [hxl, hrow] at hok
      obtain ⟨gg, oo, cc, hve, hFe⟩ := hok.ex (by omega)
      rw [hve] at hok ⊢
      refine (xP_IAn SL_32 SZ_5 hjs).2 ?_
      rw [Nat.mul_one]
      refine xE_storeOwn SZ_5 hok (by rw [flat_len encB_len, zRow_len]; omega) rfl fun w7 ho7 hk7 hz7 => ?_
      rw [flip_set8, zRow_set hjs, ← hve] at ho7
      have hup := Out.upd (x := zRow s A B i (j + 1) i) hod (by omega) hk7 (by rw [zRow_len]; exact ho7)
      try simp only [xP_nil, xP_pick, xP_func, xP_not, xP_add, xP_sub, xP_mul, xP_lss, xP_leq, xP_gtr, xP_geq, xP_max2, xP_min2, xR_eql, xR_neq, Nat.zero_add, Nat.add_zero, Nat.reduceAdd, List.getD_cons_zero, List.getD_cons_succ, xIf_true, xIf_false, FA_35_0, FA_35_1, FA_66_0, FA_66_1, FA_66_2, FA_82_0, FA_82_1, FA_82_2, FA_86_0, FA_86_1, LEN_29, LEN_32, LEN_47, LEN_48, LEN_79, LEN_116]
      rw [wrap64 (by omega) (by omega)]
      refine ⟨⟨j + 1, _, rfl, by omega, hup, ?_, hk6d.then hk7 (fun g hg => .inr ((hod.rf _ hm g hg).1))⟩, by omega⟩
      rw [List.map_set, hr6, zP_set hik]
    · obtain rfl : j = s := by omega
      rw [zP_next] at hr6
      try simp only [xP_nil, xP_pick, xP_func, xP_not, xP_add, xP_sub, xP_mul, xP_lss, xP_leq, xP_gtr, xP_geq, xP_max2, xP_min2, xR_eql, xR_neq, Nat.zero_add, Nat.add_zero, Nat.reduceAdd, List.getD_cons_zero, List.getD_cons_succ, xIf_true, xIf_false, FA_35_0, FA_35_1, FA_66_0, FA_66_1, FA_66_2, FA_82_0, FA_82_1, FA_82_2, FA_86_0, FA_86_1, LEN_29, LEN_32, LEN_47, LEN_48, LEN_79, LEN_116]
      rw [wrap64 (by omega) (by omega)]
      exact ⟨⟨i + 1, rs, rfl, by omega, ho6, hr6, hk6⟩, by omega⟩
  · obtain rfl : i = kk := by omega
    have hZ : RowsT w5 zv (zP i s A B i 0) := by rw [← hr5]; exact ho5.rows
    have hC5 := hC3.kept0 hk5
    have hk05 := hk03.then hk5 (by simp)
    refine encG hC5 (hX.kept0 hk5) hAl hAr (by omega) fun pv w6 hp6 hk6 => ?_
    simp only [xP_ex0, xP_ex1]
    refine encG (hC5.kept0 hk6) ((hY.kept0 hk5).kept0 hk6) hBl hBr (by omega) fun qv w7 hq7 hk7 => ?_
    simp only [xP_ex0, xP_ex1]
    have hk57 := hk6.then hk7 (by simp)
    refine encG (hC5.kept0 hk57) (hZ.kept0 hk57) (zP_len _ _ _ _ _ _) zP_rows (by omega) fun rv w8 hr8 hk8 => ?_
    simp only [xP_ex0, xP_ex1]
    have hk58 := hk57.then hk8 (by simp)
    have hp8 := (hp6.kept0 hk7).kept0 hk8
    have hq8 := hq7.kept0 hk8
    have hk08 := hk05.then hk58 (by simp)
    refine xJoin_of (fun ls w' => ls = [.bool false] ∧ Kept [] w8 w') ?_ ?_
    · refine (xR_neqN IFE).2 ?_
      simp only [xIf_false]
      refine (xR_neqN IFE).2 ?_
      simp only [xIf_false]
      refine (xR_neqN IFE).2 ?_
      simp only [xIf_false]
      refine (rowsLen hp8).2 ?_
      rw [encP_len]
      simp only [xP_nil, xP_pick, xP_func, xP_not, xP_add, xP_sub, xP_mul, xP_lss, xP_leq, xP_gtr, xP_geq, xP_max2, xP_min2, xR_eql, xR_neq, Nat.zero_add, Nat.add_zero, Nat.reduceAdd, List.getD_cons_zero, List.getD_cons_succ, xIf_true, xIf_false, FA_35_0, FA_35_1, FA_66_0, FA_66_1, FA_66_2, FA_82_0, FA_82_1, FA_82_2, FA_86_0, FA_86_1, LEN_29, LEN_32, LEN_47, LEN_48, LEN_79, LEN_116, ne_eq, not_true_eq_false, decide_false]
      refine (rowsLen hq8).2 ?_
      rw [encP_len]
      simp only [xP_nil, xP_pick, xP_func, xP_not, xP_add, xP_sub, xP_mul, xP_lss, xP_leq, xP_gtr, xP_geq, xP_max2, xP_min2, xR_eql, xR_neq, Nat.zero_add, Nat.add_zero, Nat.reduceAdd, List.getD_cons_zero, List.getD_cons_succ, xIf_true, xIf_false, FA_35_0, FA_35_1, FA_66_0, FA_66_1, FA_66_2, FA_82_0, FA_82_1, FA_82_2, FA_86_0, FA_86_1, LEN_29, LEN_32, LEN_47, LEN_48, LEN_79, LEN_116, ne_eq, not_true_eq_false, decide_false]
      refine (rowsLen hr8).2 ?_
      rw [encP_len]
      simp only [xP_nil, xP_pick, xP_func, xP_not, xP_add, xP_sub, xP_mul, xP_lss, xP_leq, xP_gtr, xP_geq, xP_max2, xP_min2, xR_eql, xR_neq, Nat.zero_add, Nat.add_zero, Nat.reduceAdd, List.getD_cons_zero, List.getD_cons_succ, xIf_true, xIf_false, FA_35_0, FA_35_1, FA_66_0, FA_66_1, FA_66_2, FA_82_0, FA_82_1, FA_82_2, FA_86_0, FA_86_1, LEN_29, LEN_32, LEN_47, LEN_48, LEN_79, LEN_116, ne_eq, not_true_eq_false, decide_false]
      obtain ⟨pa, pc, rfl, hpc⟩ := RowsT.cap hp8
      rw [encP_len] at hpc
      refine (xP_upto (j := (i : Nat)) SL_29 SZ_32 (by omega) (by omega)).2 ?_
      rw [Int.toNat_natCast]
      have ht := RowsT.upto (j := i) hp8 (by rw [encP_len]; omega)
      rw [encP_take hAl hAr (by omega)] at ht
      refine sameS ht ((hX.kept0 hk5).kept0 hk58) (by omega) (fun x hx => by rw [hAr x hx]; omega) fun w9 hk9 => ?_
      simp only [decide_true, xP_not, Bool.not_true]
      exact ⟨by trivial, hk9⟩
    rintro _ _ w9 ⟨rfl, hk9⟩
    simp only [List.getD_cons_zero, xIf_false]
    refine (rowsLen hr8).2 ?_
    rw [encP_len]
    refine xLoop_of (fun ls w' => ∃ t : Nat, ls = [.int .i64 t] ∧ t ≤ nn ∧ Kept [] w8 w') (fun ls _ => match ls with | [.int _ i] => nn - i.toNat | _ => 0) ⟨0, rfl, by omega, hk9⟩ ?_
    rintro _ _ w10 ⟨t, rfl, ht, hk10⟩
    simp only [xP_nil, xP_pick, xP_func, xP_not, xP_add, xP_sub, xP_mul, xP_lss, xP_leq, xP_gtr, xP_geq, xP_max2, xP_min2, xR_eql, xR_neq, Nat.zero_add, Nat.add_zero, Nat.reduceAdd, List.getD_cons_zero, List.getD_cons_succ, xIf_true, xIf_false, FA_35_0, FA_35_1, FA_66_0, FA_66_1, FA_66_2, FA_82_0, FA_82_1, FA_82_2, FA_86_0, FA_86_1, LEN_29, LEN_32, LEN_47, LEN_48, LEN_79, LEN_116, xIf_dec]
    refine ⟨fun hlt => ?_, fun hge => ?_⟩
    · have htn : t < nn := by omega
      refine hr8.get rowW hk10 (by rw [encP_len]; exact htn) fun u hu => ?_
      rw [encP_get htn] at hu
      refine (bytesLen hu).2 ?_
      rw [mixP_len]
      refine xLoop_of (fun ls w' => ∃ j : Nat, ls = [.int .i64 j] ∧ j ≤ s ∧ Kept [] w8 w') (fun ls _ => match ls with | [.int _ j] => s - j.toNat | _ => 0) ⟨0, rfl, by omega, hk10⟩ ?_
      rintro _ _ w11 ⟨j, rfl, hj, hk11⟩
      simp only [xP_nil, xP_pick, xP_func, xP_not, xP_add, xP_sub, xP_mul, xP_lss, xP_leq, xP_gtr, xP_geq, xP_max2, xP_min2, xR_eql, xR_neq, Nat.zero_add, Nat.add_zero, Nat.reduceAdd, List.getD_cons_zero, List.getD_cons_succ, xIf_true, xIf_false, FA_35_0, FA_35_1, FA_66_0, FA_66_1, FA_66_2, FA_82_0, FA_82_1, FA_82_2, FA_86_0, FA_86_1, LEN_29, LEN_32, LEN_47, LEN_48, LEN_79, LEN_116, xIf_dec]
      refine ⟨fun hlj => ?_, fun hgj => ?_⟩
      · have hjs : j < s := by omega
        have hd := hk11.then (kept_drew [] w11) (by simp)
        refine cellAt hr8 hd (by rw [encP_len]; exact htn) (by rw [encP_get htn, mixP_len]; exact hjs) ?_
        refine cellAt hp8 hd (by rw [encP_len]; exact htn) (by rw [encP_get htn, mixP_len]; exact hjs) ?_
        refine cellAt hq8 hd (by rw [encP_len]; exact htn) (by rw [encP_get htn, mixP_len]; exact hjs) ?_
        rw [encP_get htn, encP_get htn, encP_get htn, sys_xor hAl hBl hjs, xP_xor8]
        simp only [xP_nil, xP_pick, xP_func, xP_not, xP_add, xP_sub, xP_mul, xP_lss, xP_leq, xP_gtr, xP_geq, xP_max2, xP_min2, xR_eql, xR_neq, Nat.zero_add, Nat.add_zero, Nat.reduceAdd, List.getD_cons_zero, List.getD_cons_succ, xIf_true, xIf_false, FA_35_0, FA_35_1, FA_66_0, FA_66_1, FA_66_2, FA_82_0, FA_82_1, FA_82_2, FA_86_0, FA_86_1, LEN_29, LEN_32, LEN_47, LEN_48, LEN_79, LEN_116, ne_eq, not_true_eq_false, decide_false]
        rw [wrap64 (by omega) (by omega)]
        exact ⟨⟨j + 1, rfl, by omega, hd⟩, by omega⟩
      · try simp only [xP_nil, xP_pick, xP_func, xP_not, xP_add, xP_sub, xP_mul, xP_lss, xP_leq, xP_gtr, xP_geq, xP_max2, xP_min2, xR_eql, xR_neq, Nat.zero_add, Nat.add_zero, Nat.reduceAdd, List.getD_cons_zero, List.getD_cons_succ, xIf_true, xIf_false, FA_35_0, FA_35_1, FA_66_0, FA_66_1, FA_66_2, FA_82_0, FA_82_1, FA_82_2, FA_86_0, FA_86_1, LEN_29, LEN_32, LEN_47, LEN_48, LEN_79, LEN_116]
        rw [wrap64 (by omega) (by omega)]
        exact ⟨⟨t + 1, rfl, by omega, hk11⟩, by omega⟩
    · exact cRunsG hg (hk08.then hk10 (by simp))
end Go.Proofs.YtoanmeohlpdjfaaDoor
