import Derived.Test.YtoanmeohlpdjfaaDoorXcCode3
namespace Go.Proofs.YtoanmeohlpdjfaaDoor
set_option linter.unusedSimpArgs false
set_option linter.unusedVariables false
set_option maxRecDepth 100000
attribute [local irreducible] Go.X.xE
open Go Go.X Go.RowKit

/-! ## What a row makes of blocks; all fragments -/
theorem mix_ok {p k n f s : Nat} {v u x : Value} {r : List UInt8} {B : List (List UInt8)} {w : World} (h : CodeIs w p k n f v) (hr : SlT w encB u r) (hB : RowsT w x B) (hl : r.length = B.length) (hpos : 0 < B.length) (hs : ∀ b ∈ B, b.length = s) (hsz : s ≤ 1000000) (hBl : B.length ≤ 1000000) :
    Gives Tryd.prog 34 #[.pointer (some ⟨p, 0, none⟩), u, x] w fun y w' => ∃ q : Rq, y = q.v ∧ q.Ok 5 w' ∧ q.x = mixP r B s ∧ (∀ g ∈ q.F, w.heap.size ≤ g) ∧ Kept [] w w' := by
  refine C_code_Code_mix ?_
  unfold S_code_Code_mix
  obtain ⟨ua, uc, rfl, huc, hur⟩ := hr
  have hr : SlT w encB (.slice ua r.length uc) r := ⟨ua, uc, rfl, huc, hur⟩
  have hgl : ∀ j, j < B.length → (B.getD j []).length = s := fun j hj => by rw [getD_lt hj]; exact hs _ (List.getElem_mem hj)
  refine hB.get (i := 0) rowW (Kept.refl _ _) hpos fun y hy => ?_
  obtain ⟨ya, yc, rfl, _, _⟩ := hy
  simp only [xP_nil, xP_pick, xP_func, xP_not, xP_add, xP_sub, xP_mul, xP_lss, xP_leq, xP_gtr, xP_geq, xP_max2, xP_min2, xR_eql, xR_neq, Nat.zero_add, Nat.add_zero, Nat.reduceAdd, List.getD_cons_zero, List.getD_cons_succ, xIf_true, xIf_false, FA_35_0, FA_35_1, FA_66_0, FA_66_1, FA_66_2, FA_82_0, FA_82_1, FA_82_2, FA_86_0, FA_86_1, LEN_29, LEN_32, LEN_47, LEN_48, LEN_79, LEN_116, hgl 0 hpos]
  refine makeB hsz fun w1 ho1 hk1 hz1 => ?_
  have hfl := h.fld.lt
  generalize hg : w.heap.size = g at *
  refine xLoop_of (fun ls w' => ∃ j : Nat, ls = [.int .i64 j] ∧ j ≤ r.length ∧ Own w' 5 1 (.slice (some ⟨g, 0, none⟩) s s) s ((mixU r B s j).flatMap encB) [g] ∧ Kept [] w w') (fun ls _ => match ls with | [.int _ j] => r.length - j.toNat | _ => 0) ⟨0, rfl, by omega, by rw [mixU_zero]; exact ho1, hk1⟩ ?_
  rintro _ _ w2 ⟨j, rfl, hj, ho2, hk2⟩
  simp only [xP_nil, xP_pick, xP_func, xP_not, xP_add, xP_sub, xP_mul, xP_lss, xP_leq, xP_gtr, xP_geq, xP_max2, xP_min2, xR_eql, xR_neq, Nat.zero_add, Nat.add_zero, Nat.reduceAdd, List.getD_cons_zero, List.getD_cons_succ, xIf_true, xIf_false, FA_35_0, FA_35_1, FA_66_0, FA_66_1, FA_66_2, FA_82_0, FA_82_1, FA_82_2, FA_86_0, FA_86_1, LEN_29, LEN_32, LEN_47, LEN_48, LEN_79, LEN_116, xIf_dec]
  refine ⟨fun hlt => ?_, fun hge => ?_⟩
  · have hj1 : j < r.length := by omega
    have hd := kept_drew [] w2
    refine (rowB.get hr hk2 hj1).2 ?_
    rw [← getD_lt (d := 0) hj1]
    have hk2d := hk2.then hd (by simp)
    obtain ⟨L0, L1, L2⟩ := h.ld hk2d
    rw [L1]
    refine hB.get rowW hk2d (by omega) fun y hy => ?_
    refine xE_call CF_39 (fadd_ok (xs := mixU r B s j) (ys := B.getD j []) ((h.fld.kept hk2d (by simp))) (F := [g]) (by simp; omega) (by rw [mixU_len]; exact ho2.kept hd (by simp)) (hy.kept0 hk2d) (by rw [mixU_len, hgl j (by omega)]) (fun h0 b o n c e => by have := hy.base8 h0 b o n c e; simp; omega) (by rw [mixU_len]; exact hsz)) ?_
    rintro _ w3 ⟨ho3, hk3⟩
    rw [mixU_len, mixU_succ (hgl j (by omega))] at ho3
    try simp only [xP_nil, xP_pick, xP_func, xP_not, xP_add, xP_sub, xP_mul, xP_lss, xP_leq, xP_gtr, xP_geq, xP_max2, xP_min2, xR_eql, xR_neq, Nat.zero_add, Nat.add_zero, Nat.reduceAdd, List.getD_cons_zero, List.getD_cons_succ, xIf_true, xIf_false, FA_35_0, FA_35_1, FA_66_0, FA_66_1, FA_66_2, FA_82_0, FA_82_1, FA_82_2, FA_86_0, FA_86_1, LEN_29, LEN_32, LEN_47, LEN_48, LEN_79, LEN_116]
    rw [wrap64 (by omega) (by omega)]
    exact ⟨⟨j + 1, rfl, by omega, ho3, hk2d.then hk3 (by intro x hx; simp at hx; exact .inr (by omega))⟩, by omega⟩
  · obtain rfl : j = r.length := by omega
    refine ⟨⟨.slice (some ⟨g, 0, none⟩) s s, [g], mixP r B s⟩, rfl, ?_, rfl, by simp, hk2⟩
    unfold Rq.Ok
    rw [mixP_len, ← mixU_all, ← hl]
    exact ho2
def encP (k n : Nat) (B : List (List UInt8)) (s : Nat) : List (List UInt8) := (List.range n).map fun a => mixP (crow k a) B s
def opCE : ByteArray := ⟨#[99, 111, 100, 101, 46, 69, 110, 99, 111, 100, 101]⟩
def len0 (B : List (List UInt8)) : Nat := (B.getD 0 []).length
def badB (k : Nat) (B : List (List UInt8)) : Bool := decide (B.length ≠ k) || B.any fun b => decide (b.length ≠ len0 B)
theorem encx_ok {b : Nat} {x y : Value} {B : List (List UInt8)} {l : List UInt8} {w : World} (hb : Blk w b 29 [x]) (hB : RowsT w x B) (hpos : 0 < B.length) (hy : SlT w encB y l) :
    Gives Tryd.prog 33 #[y, .pointer (some ⟨b, 0, none⟩)] w fun u w' => u = .bool (decide (l.length ≠ len0 B)) ∧ Kept [] w w' := by
  refine C_code_Code_Encodex1 ?_
  unfold S_code_Code_Encodex1
  obtain ⟨ya, yc, rfl, _, _⟩ := hy
  simp only [xP_nil, xP_pick, xP_func, xP_not, xP_add, xP_sub, xP_mul, xP_lss, xP_leq, xP_gtr, xP_geq, xP_max2, xP_min2, xR_eql, xR_neq, Nat.zero_add, Nat.add_zero, Nat.reduceAdd, List.getD_cons_zero, List.getD_cons_succ, xIf_true, xIf_false, FA_35_0, FA_35_1, FA_66_0, FA_66_1, FA_66_2, FA_82_0, FA_82_1, FA_82_2, FA_86_0, FA_86_1, LEN_29, LEN_32, LEN_47, LEN_48, LEN_79, LEN_116]
  refine (ld1 ONE_29 (hb.cell (o := 0))).2 ?_
  refine hB.get (i := 0) rowW (Kept.refl _ _) hpos fun z hz => ?_
  obtain ⟨za, zc, rfl, _, _⟩ := hz
  simp only [xP_nil, xP_pick, xP_func, xP_not, xP_add, xP_sub, xP_mul, xP_lss, xP_leq, xP_gtr, xP_geq, xP_max2, xP_min2, xR_eql, xR_neq, Nat.zero_add, Nat.add_zero, Nat.reduceAdd, List.getD_cons_zero, List.getD_cons_succ, xIf_true, xIf_false, FA_35_0, FA_35_1, FA_66_0, FA_66_1, FA_66_2, FA_82_0, FA_82_1, FA_82_2, FA_86_0, FA_86_1, LEN_29, LEN_32, LEN_47, LEN_48, LEN_79, LEN_116]
  refine ⟨?_, Kept.refl _ _⟩
  unfold len0
  rw [decide_eq_decide.2 (show ((l.length : Int) ≠ ((B.getD 0 []).length : Nat)) ↔ (l.length ≠ (B.getD 0 []).length) by omega)]
theorem contains_ok {b : Nat} {x : Value} {B : List (List UInt8)} {w : World} (hb : Blk w b 29 [x]) (hB : RowsT w x B) (hpos : 0 < B.length) (hl : B.length ≤ 1000000) :
    Gives Tryd.prog 32 #[x, .func (.func 33) #[] #[.pointer (some ⟨b, 0, none⟩)]] w fun u w' => u = .bool (B.any fun b => decide (b.length ≠ len0 B)) ∧ Kept [] w w' := by
  refine C_slices_ContainsFunc_Lbyte ?_
  unfold S_slices_ContainsFunc_Lbyte
  have hB' := hB
  obtain ⟨rs, hrs, hrow, hx⟩ := hB
  have hrl : rs.length = B.length := by rw [← hx, List.length_map]
  refine xE_call CF_47 (Q := fun u w' => u = .int .i64 (if rs.findIdx (fun r => decide (r.2.length ≠ len0 B)) < rs.length then (rs.findIdx (fun r => decide (r.2.length ≠ len0 B)) : Int) else -1) ∧ Kept [] w w') ?_ ?_
  · refine C_slices_IndexFunc_Lbyte ?_
    exact xIndexFunc rowW (by kernel_rfl) hrs (by omega) (fun r hr w' hk => encx_ok (hb.kept hk (by simp)) (hB'.kept0 hk) hpos ((hrow r hr).kept0 hk)) (fun w' hk => ⟨rfl, hk⟩)
  · rintro _ w1 ⟨rfl, hk⟩
    simp only [xP_nil, xP_pick, xP_func, xP_not, xP_add, xP_sub, xP_mul, xP_lss, xP_leq, xP_gtr, xP_geq, xP_max2, xP_min2, xR_eql, xR_neq, Nat.zero_add, Nat.add_zero, Nat.reduceAdd, List.getD_cons_zero, List.getD_cons_succ, xIf_true, xIf_false, FA_35_0, FA_35_1, FA_66_0, FA_66_1, FA_66_2, FA_82_0, FA_82_1, FA_82_2, FA_86_0, FA_86_1, LEN_29, LEN_32, LEN_47, LEN_48, LEN_79, LEN_116]
    rw [found]
    refine ⟨?_, hk⟩
    rw [← hx, List.any_map]
    rfl
theorem encode_ok {p k n f : Nat} {v x : Value} {B : List (List UInt8)} {w : World} (h : CodeIs w p k n f v) (hB : RowsT w x B) (hl : B.length ≤ 1000000) (hs : len0 B ≤ 1000000) :
    Gives Tryd.prog 14 #[.pointer (some ⟨p, 0, none⟩), x] w fun u w' => Kept [] w w' ∧ match badB k B with
      | true => u = .tuple #[.slice none 0 0, erV (.flt opCE 0 (.no 1))]
      | false => ∃ y rs G, u = .tuple #[y, .nilIface] ∧ Out 32 5 w w' y rs G ∧ rs.map Rq.x = encP k n B (len0 B) := by
  refine C_code_Code_Encode ?_
  unfold S_code_Code_Encode
  have hk1 := h.k1
  have hn8 := h.n8
  refine xE_box fun w1 hb1 hkb hz1 => ?_
  have hb1 : Blk w1 w.heap.size 29 x.cells.toList := hb1
  obtain ⟨xa, xc, hx⟩ := hB.sl
  have hxc : x.cells.toList = [x] := by rw [hx]; rfl
  rw [hxc] at hb1
  generalize w.heap.size = b at *
  have hd1 := kept_drew [] w1
  have hk0d := hkb.then hd1 (by simp)
  refine xJoin_of (fun ls w' => ls = [.bool (badB k B)] ∧ Kept [] w1 w') ?_ ?_
  · refine (ld1 ONE_29 ((blk_drew hb1).cell (o := 0))).2 ?_
    obtain ⟨L0, L1, L2⟩ := h.ld hk0d
    rw [hx]
    simp only [xP_nil, xP_pick, xP_func, xP_not, xP_add, xP_sub, xP_mul, xP_lss, xP_leq, xP_gtr, xP_geq, xP_max2, xP_min2, xR_eql, xR_neq, Nat.zero_add, Nat.add_zero, Nat.reduceAdd, List.getD_cons_zero, List.getD_cons_succ, xIf_true, xIf_false, FA_35_0, FA_35_1, FA_66_0, FA_66_1, FA_66_2, FA_82_0, FA_82_1, FA_82_2, FA_86_0, FA_86_1, LEN_29, LEN_32, LEN_47, LEN_48, LEN_79, LEN_116, L0, xIf_dec]
    refine ⟨fun hne => ⟨?_, hd1⟩, fun heq => ?_⟩
    · unfold badB
      rw [decide_eq_true (show B.length ≠ k by omega), Bool.true_or]
    · refine (ld1 ONE_29 ((blk_drew hb1).cell (o := 0))).2 ?_
      refine xE_call CF_32 (contains_ok (blk_drew hb1) (hB.kept0 hk0d) (by omega) hl) ?_
      rintro _ w2 ⟨rfl, hk2⟩
      refine ⟨?_, hd1.then hk2 (by simp)⟩
      unfold badB
      rw [decide_eq_false (show ¬ B.length ≠ k by omega), Bool.false_or]
  rintro _ _ w2 ⟨rfl, hk12⟩
  have hk2 := hkb.then hk12 (by simp)
  have hbx : ∀ w', Kept [] w1 w' → w'.cell? ⟨b, 0, none⟩ = some x := fun w' hk => (hb1.kept hk (by simp)).cell (o := 0)
  simp only [List.getD_cons_zero]
  cases hbad : badB k B with
  | true =>
    simp only [xIf_true]
    exact cwrapK ⟨hk2, rfl⟩
  | false =>
    simp only [xIf_false]
    have hlk : B.length = k ∧ ∀ b ∈ B, b.length = len0 B := by
      unfold badB at hbad
      simp only [Bool.or_eq_false_iff, decide_eq_false_iff_not, List.any_eq_false, decide_eq_true_eq, ne_eq, Decidable.not_not] at hbad
      exact hbad
    obtain ⟨va, vc, hv⟩ := h.rows.sl
    rw [crows_len] at hv
    obtain ⟨L0, L1, L2⟩ := h.ld hk2
    simp only [xP_nil, xP_pick, xP_func, xP_not, xP_add, xP_sub, xP_mul, xP_lss, xP_leq, xP_gtr, xP_geq, xP_max2, xP_min2, xR_eql, xR_neq, Nat.zero_add, Nat.add_zero, Nat.reduceAdd, List.getD_cons_zero, List.getD_cons_succ, xIf_true, xIf_false, FA_35_0, FA_35_1, FA_66_0, FA_66_1, FA_66_2, FA_82_0, FA_82_1, FA_82_2, FA_86_0, FA_86_1, LEN_29, LEN_32, LEN_47, LEN_48, LEN_79, LEN_116, L2]
    rw [hv]
    simp only [xP_nil, xP_pick, xP_func, xP_not, xP_add, xP_sub, xP_mul, xP_lss, xP_leq, xP_gtr, xP_geq, xP_max2, xP_min2, xR_eql, xR_neq, Nat.zero_add, Nat.add_zero, Nat.reduceAdd, List.getD_cons_zero, List.getD_cons_succ, xIf_true, xIf_false, FA_35_0, FA_35_1, FA_66_0, FA_66_1, FA_66_2, FA_82_0, FA_82_1, FA_82_2, FA_86_0, FA_86_1, LEN_29, LEN_32, LEN_47, LEN_48, LEN_79, LEN_116]
    rw [← hv]
    refine xLoop_of (fun ls w' => ∃ (a : Nat) (rs : List Rq) (G : List Nat) (o : Value), ls = [o, .int .i64 a] ∧ a ≤ n ∧ Out 32 5 w1 w' o rs G ∧ rs.map Rq.x = encP k a B (len0 B) ∧ Kept [] w1 w')
      (fun ls _ => match ls with | [_, .int _ a] => n - a.toNat | _ => 0) ⟨0, [], [], _, rfl, by omega, out_nil _ _, rfl, hk12⟩ ?_
    rintro _ _ w3 ⟨a, rs, G, o, rfl, ha, ho3, hrx, hk13⟩
    have hk3 := hkb.then hk13 (by simp)
    simp only [xP_nil, xP_pick, xP_func, xP_not, xP_add, xP_sub, xP_mul, xP_lss, xP_leq, xP_gtr, xP_geq, xP_max2, xP_min2, xR_eql, xR_neq, Nat.zero_add, Nat.add_zero, Nat.reduceAdd, List.getD_cons_zero, List.getD_cons_succ, xIf_true, xIf_false, FA_35_0, FA_35_1, FA_66_0, FA_66_1, FA_66_2, FA_82_0, FA_82_1, FA_82_2, FA_86_0, FA_86_1, LEN_29, LEN_32, LEN_47, LEN_48, LEN_79, LEN_116, xIf_dec]
    refine ⟨fun hlt => ?_, fun hge => ?_⟩
    · refine h.rows.get rowW hk3 (by rw [crows_len]; omega) fun y hy => ?_
      rw [crows_get (by omega)] at hy
      refine (ld1 ONE_29 (hbx w3 hk13)).2 ?_
      refine xE_call CF_34 (mix_ok (h.kept0 hk3) (hy.kept0 hk3) (hB.kept0 hk3) (by rw [crow_len, hlk.1]) (by omega) hlk.2 hs hl) ?_
      rintro _ w4 ⟨q, rfl, hq, hqx, hqF, hk4⟩
      refine xE_one EL_29 hq.one fun w5 hat hk5 hz5 => ?_
      have hrl : rs.length = a := by have := congrArg List.length hrx; rw [List.length_map] at this; rw [this]; simp [encP]
      have hz3 := hk13.size
      have hz4 := hk4.size
      refine ((ho3.kept0 hk4).kept0 hk5).app (r := q) EL_29 (hq.kept0 hk5) (fun g hg => ⟨by have := hqF g hg; omega, fun hm => by have := hqF g hg; have := ho3.own.lt g hm; omega, fun r hr hm => by have := hqF g hg; have := (ho3.ok r hr).lt g hm; omega⟩) hat (by omega) (by omega) (by omega) fun u w6 G' ho6 hk6 hG' => ?_
      try simp only [xP_nil, xP_pick, xP_func, xP_not, xP_add, xP_sub, xP_mul, xP_lss, xP_leq, xP_gtr, xP_geq, xP_max2, xP_min2, xR_eql, xR_neq, Nat.zero_add, Nat.add_zero, Nat.reduceAdd, List.getD_cons_zero, List.getD_cons_succ, xIf_true, xIf_false, FA_35_0, FA_35_1, FA_66_0, FA_66_1, FA_66_2, FA_82_0, FA_82_1, FA_82_2, FA_86_0, FA_86_1, LEN_29, LEN_32, LEN_47, LEN_48, LEN_79, LEN_116]
      rw [wrap64 (by omega) (by omega)]
      refine ⟨⟨a + 1, rs ++ [q], G', u, rfl, by omega, ho6, ?_, ((hk13.then hk4 (by simp)).then hk5 (by simp)).then hk6 (fun g hg => .inr (ho3.fresh g hg))⟩, by omega⟩
      rw [List.map_append, hrx]
      unfold encP
      rw [List.range_succ, List.map_append, List.map_cons, List.map_nil, List.map_cons, List.map_nil, hqx]
    · obtain rfl : a = n := by omega
      exact ⟨hk3, o, rs, G, rfl, ⟨ho3.own, fun g hg => Nat.le_trans hkb.size (ho3.fresh g hg), ho3.ok, fun r hr g hg => ⟨Nat.le_trans hkb.size (ho3.rf r hr g hg).1, (ho3.rf r hr g hg).2⟩, ho3.nd⟩, hrx⟩
end Go.Proofs.YtoanmeohlpdjfaaDoor
