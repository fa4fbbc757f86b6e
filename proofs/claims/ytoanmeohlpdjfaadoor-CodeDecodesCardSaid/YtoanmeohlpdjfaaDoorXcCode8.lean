import Derived.Test.YtoanmeohlpdjfaaDoorXcCode7
namespace Go.Proofs.YtoanmeohlpdjfaaDoor
set_option linter.unusedSimpArgs false
set_option linter.unusedVariables false
set_option maxRecDepth 100000
attribute [local irreducible] Go.X.xE
open Go Go.X Go.RowKit

theorem inv_ne {a : UInt8} (h : a ≠ 0) : uinv a ≠ 0 := uinv_ne h
section
variable {p k n f s : Nat} {cv m o : Value} {w w1 : World} {K g1 g2 col : Nat} {q : Nat → Qp} {R : World → Prop}
/-- One row pair has the column's one added. -/
theorem addRows (h : CodeIs w p k n f cv) (hSt : St w w1 m o K q g1 g2) (hk : Kept [] w w1) {i : Nat} (hi : i < K) (hc : col < K) (hic : i ≠ col) {x : UInt8} (h1 : (q i).1.x.length = (q col).1.x.length) (h2 : (q i).2.x.length = (q col).2.x.length) (hs1 : (q i).1.x.length ≤ 1000000) (hs2 : (q i).2.x.length ≤ 1000000)
    (kk : ∀ w', St w w' m o K (updQ q i (mulAdd (q i).1.x (q col).1.x x) (mulAdd (q i).2.x (q col).2.x x)) g1 g2 → Kept [] w w' → R w') :
    xP Tryd.prog (sNil (.pointer (some ⟨p, 0, none⟩))) fun v131 => xP Tryd.prog (sFA 66 v131 1) fun v132 => xR Tryd.prog (sLoad 63 v132) w1.drew fun v133 =>
    xP Tryd.prog (sIA 29 m (.int .i64 i)) fun v136 => xR Tryd.prog (sLoad 32 v136) w1.drew fun v137 =>
    xP Tryd.prog (sIA 29 m (.int .i64 col)) fun v140 => xR Tryd.prog (sLoad 32 v140) w1.drew fun v141 =>
    xE Tryd.prog (sCall 39 #[v133, v137, v141, .int .u8 x.toNat]) w1.drew fun _ w113 =>
    xP Tryd.prog (sNil (.pointer (some ⟨p, 0, none⟩))) fun v145 => xP Tryd.prog (sFA 66 v145 1) fun v146 => xR Tryd.prog (sLoad 63 v146) w113.drew fun v147 =>
    xP Tryd.prog (sIA 29 o (.int .i64 i)) fun v150 => xR Tryd.prog (sLoad 32 v150) w113.drew fun v151 =>
    xP Tryd.prog (sIA 29 o (.int .i64 col)) fun v154 => xR Tryd.prog (sLoad 32 v154) w113.drew fun v155 =>
    xE Tryd.prog (sCall 39 #[v147, v151, v155, .int .u8 x.toNat]) w113.drew fun _ w122 => R w122 := by
  have hd1 := kept_drew [] w1
  have hSd := hSt.kept0 hd1
  have hkd := hk.then hd1 (by simp)
  obtain ⟨L0, L1, L2⟩ := h.ld hkd
  have hpl := h.blk.lt
  have hfl := h.fld.lt
  simp only [xP_nil, xP_pick, xP_func, xP_not, xP_add, xP_sub, xP_mul, xP_lss, xP_leq, xP_gtr, xP_geq, xP_max2, xP_min2, xR_eql, xR_neq, Nat.zero_add, Nat.add_zero, Nat.reduceAdd, List.getD_cons_zero, List.getD_cons_succ, xIf_true, xIf_false, FA_35_0, FA_35_1, FA_66_0, FA_66_1, FA_66_2, FA_82_0, FA_82_1, FA_82_2, FA_86_0, FA_86_1, LEN_29, LEN_32, LEN_47, LEN_48, LEN_79, LEN_116, L1]
  refine (ownRow hSd.own1 hi).2 ?_
  refine (ownRow hSd.own1 hc).2 ?_
  have r1 := hSt.rf1 i hi
  have r2 := hSt.rf2 i hi
  refine xE_call CF_39 (fadd_ok (h.fld.kept hkd (by simp)) (fun hm => by have := (r1 f hm).1; omega) (hSd.ok1 i hi) (hSd.ok1 col hc).slT h1 (fun _ b oo n c e hm => hSt.d11 i hi col hc hic b hm (Own.addr (hSd.ok1 col hc) b oo n c e)) hs1) ?_
  rintro _ w2 ⟨ho2, hk2⟩
  have hk02 : Kept [] w w2 := hkd.then hk2 (fun g hg => .inr (r1 g hg).1)
  have hd2 := kept_drew [] w2
  have hk02d := hk02.then hd2 (by simp)
  obtain ⟨M0, M1, M2⟩ := h.ld hk02d
  simp only [xP_nil, xP_pick, xP_func, xP_not, xP_add, xP_sub, xP_mul, xP_lss, xP_leq, xP_gtr, xP_geq, xP_max2, xP_min2, xR_eql, xR_neq, Nat.zero_add, Nat.add_zero, Nat.reduceAdd, List.getD_cons_zero, List.getD_cons_succ, xIf_true, xIf_false, FA_35_0, FA_35_1, FA_66_0, FA_66_1, FA_66_2, FA_82_0, FA_82_1, FA_82_2, FA_86_0, FA_86_1, LEN_29, LEN_32, LEN_47, LEN_48, LEN_79, LEN_116, M1]
  have hk2d : Kept (q i).1.F w1.drew w2.drew := hk2.then hd2 (by simp)
  have hg2 : ∀ g ∈ [g2], g ∉ (q i).1.F := fun g hg hm => by simp at hg; exact (r1 g hm).2.2 hg
  refine (ownRow (hSd.own2.kept hk2d hg2) hi).2 ?_
  refine (ownRow (hSd.own2.kept hk2d hg2) hc).2 ?_
  have oki := (hSd.ok2 i hi).kept hk2d (fun g hg hm => hSt.d12 i hi i hi g hm hg)
  have okc := (hSd.ok2 col hc).kept hk2d (fun g hg hm => hSt.d12 i hi col hc g hm hg)
  refine xE_call CF_39 (fadd_ok (h.fld.kept hk02d (by simp)) (fun hm => by have := (r2 f hm).1; omega) oki okc.slT h2 (fun _ b oo n c e hm => hSt.d22 i hi col hc hic b hm (Own.addr okc b oo n c e)) hs2) ?_
  rintro _ w3 ⟨ho3, hk3⟩
  have hk13 : Kept ((q i).1.F ++ (q i).2.F) w1 w3 := (((hd1.mono (by simp)).then hk2 (fun g hg => .inl (List.mem_append_left _ hg))).then hd2 (by simp)).then hk3 (fun g hg => .inl (List.mem_append_right _ hg))
  refine kk w3 (hSt.upd hi hk13 ?_ ?_) (hk02d.then hk3 (fun g hg => .inr (r2 g hg).1))
  · rw [mulAdd_len h1]
    exact (ho2.kept hd2 (by simp)).kept hk3 (fun g hg hm => hSt.d12 i hi i hi g hg hm)
  · rw [mulAdd_len h2]
    exact ho3
end
/-- What stands ahead of a round over the columns. -/
structure Round (w w' : World) (m o : Value) (K s : Nat) (R0 : Nat → Rpr) (col : Nat) : Prop where
  st : ∃ q g1 g2, St w w' m o K q g1 g2 ∧ Gs K s (rp q) ∧ Ker K (rp q) ∧ Uni K col (rp q) ∧ ∀ X, Sol K s X (rp q) → Sol K s X R0
  kept : Kept [] w w'
theorem lenOwn {w : World} {v : Value} {n : Nat} {xs : List Value} {F : List Nat} {R : Value → Prop} (h : Own w 32 1 v n xs F) : xP Tryd.prog (sB .len #[29] #[v]) R ↔ R (.int .i64 n) := by
  obtain ⟨a, c, rfl, _, _⟩ := h.slice
  exact xP_len SL_29
theorem byteAt {w : World} {v : Value} {x : List UInt8} {i : Nat} {R : Value → Prop} (h : SlT w encB v x) (hi : i < x.length) : (xP Tryd.prog (sIA 32 v (.int .i64 i)) fun u => xR Tryd.prog (sLoad 5 u) w R) ↔ R (.int .u8 (x.getD i 0).toNat) := by
  rw [rowB.get h (Kept.refl _ _) hi, getD_lt hi]
theorem u8_ne {a : UInt8} : ((a.toNat : Int) ≠ 0) ↔ a ≠ 0 := not_congr u8_zero
theorem solve_ok {p k n f s : Nat} {cv v : Value} {l : List Pt} {w : World} (h : CodeIs w p k n f cv) (hl : SlT w encPt v l) (hp : PtsOk w l) (hat : ∀ q ∈ l, 0 ≤ q.at_ ∧ q.at_ < n) (hll : l.length = k) (hnd : (l.map Pt.at_).Nodup) (hs : ∀ q ∈ l, q.d.length = s) (hsz : s ≤ 1000000) :
    Gives Tryd.prog 36 #[.pointer (some ⟨p, 0, none⟩), v] w fun u w' => ∃ X : List (List UInt8), X.length = k ∧ (∀ b ∈ X, b.length = s) ∧ RowsT w' u X ∧ Sol k s (fun j => X.getD j []) (ptR k l) ∧ Kept [] w w' := by
  have hk1 := h.k1
  have hkn := h.kn
  have hn8 := h.n8
  have hpl := h.blk.lt
  have hfl := h.fld.lt
  refine C_code_Code_solve ?_
  unfold S_code_Code_solve
  obtain ⟨la, lc, rfl, hlc, hlr⟩ := hl
  have hl : SlT w encPt (.slice la l.length lc) l := ⟨la, lc, rfl, hlc, hlr⟩
  simp only [xP_nil, xP_pick, xP_func, xP_not, xP_add, xP_sub, xP_mul, xP_lss, xP_leq, xP_gtr, xP_geq, xP_max2, xP_min2, xR_eql, xR_neq, Nat.zero_add, Nat.add_zero, Nat.reduceAdd, List.getD_cons_zero, List.getD_cons_succ, xIf_true, xIf_false, FA_35_0, FA_35_1, FA_66_0, FA_66_1, FA_66_2, FA_82_0, FA_82_1, FA_82_2, FA_86_0, FA_86_1, LEN_29, LEN_32, LEN_47, LEN_48, LEN_79, LEN_116]
  refine xLoop_of (fun ls w' => ∃ (i : Nat) (m o : Value) (rm ro : List Rq) (G1 G2 : List Nat), ls = [m, o, .int .i64 i] ∧ i ≤ l.length ∧ Out 32 5 w w' m rm G1 ∧ Out 32 5 w w' o ro G2 ∧ (∀ g ∈ Bl rm G1, g ∉ Bl ro G2) ∧ rm.map Rq.x = (l.take i).map (fun q => crow k q.at_.toNat) ∧ ro.map Rq.x = (l.take i).map Pt.d ∧ Kept [] w w')
    (fun ls _ => match ls with | [_, _, .int _ i] => l.length - i.toNat | _ => 0) ⟨0, _, _, [], [], [], [], rfl, by omega, out_nil _ _, out_nil _ _, by simp [Bl], rfl, rfl, Kept.refl _ _⟩ ?_
  rintro _ _ w1 ⟨i, m, o, rm, ro, G1, G2, rfl, hi, hm1, ho1, hdj, hrm, hro, hk1'⟩
  simp only [xP_nil, xP_pick, xP_func, xP_not, xP_add, xP_sub, xP_mul, xP_lss, xP_leq, xP_gtr, xP_geq, xP_max2, xP_min2, xR_eql, xR_neq, Nat.zero_add, Nat.add_zero, Nat.reduceAdd, List.getD_cons_zero, List.getD_cons_succ, xIf_true, xIf_false, FA_35_0, FA_35_1, FA_66_0, FA_66_1, FA_66_2, FA_82_0, FA_82_1, FA_82_2, FA_86_0, FA_86_1, LEN_29, LEN_32, LEN_47, LEN_48, LEN_79, LEN_116, xIf_dec]
  refine ⟨fun hlt => ?_, fun hge => ?_⟩
  · have hi1 : i < l.length := by omega
    have hq := hat _ (List.getElem_mem hi1)
    have hqok := hp _ (List.getElem_mem hi1)
    have hqs := hs _ (List.getElem_mem hi1)
    have htk : l.take (i + 1) = l.take i ++ [l[i]] := by rw [List.take_add_one, List.getElem?_eq_getElem hi1]; rfl
    refine takePt hl hp hk1' hi1 fun w2 hbp hk2 hz2 => ?_
    have hlm : rm.length = i := by have := congrArg List.length hrm; rw [List.length_map, List.length_map, List.length_take] at this; omega
    have hlo : ro.length = i := by have := congrArg List.length hro; rw [List.length_map, List.length_map, List.length_take] at this; omega
    generalize l[i] = q at *
    obtain ⟨a, qv, d⟩ := q
    obtain ⟨t, rfl⟩ := Int.eq_ofNat_of_zero_le hq.1
    have ht : t < n := by have := hq.2; simp at this; omega
    have hd2 := kept_drew [] w2
    have hk02 := (hk1'.then hk2 (by simp)).then hd2 (by simp)
    have hbp : Blk w2.drew w1.heap.size 35 [.int .i64 t, qv] := hbp
    obtain ⟨L0, L1, L2⟩ := h.ld hk02
    simp only [xP_nil, xP_pick, xP_func, xP_not, xP_add, xP_sub, xP_mul, xP_lss, xP_leq, xP_gtr, xP_geq, xP_max2, xP_min2, xR_eql, xR_neq, Nat.zero_add, Nat.add_zero, Nat.reduceAdd, List.getD_cons_zero, List.getD_cons_succ, xIf_true, xIf_false, FA_35_0, FA_35_1, FA_66_0, FA_66_1, FA_66_2, FA_82_0, FA_82_1, FA_82_2, FA_86_0, FA_86_1, LEN_29, LEN_32, LEN_47, LEN_48, LEN_79, LEN_116, L2]
    refine (ld1 ONE_3 (v := .int .i64 t) (hbp.cell (o := 0))).2 ?_
    refine h.rows.get rowW hk02 (by rw [crows_len]; exact ht) fun y hy => ?_
    rw [crows_get ht] at hy
    have hc1 : ∀ w', Kept [] w2.drew w' → w'.cell? ⟨w1.heap.size, 1, none⟩ = some qv := fun w' hk => (hbp.kept hk (by simp)).cell (o := 1)
    refine (ld1 ONE_32 (hc1 _ (Kept.refl _ _))).2 ?_
    refine cloneS (hy.kept0 hk02) (by rw [crow_len]; omega) fun q1 w3 hq1 hx1 hF1 hk3 => ?_
    refine (still1 ONE_32 (hc1 _ hk3)).2 ?_
    refine xE_one EL_29 hq1.one fun w4 hat4 hk4 hz4 => ?_
    have hk24 := hk3.then hk4 (by simp)
    refine (still1 ONE_32 (hc1 _ hk24)).2 ?_
    have hk14 : Kept [] w1 w4 := (hk2.then hd2 (by simp)).then hk24 (by simp)
    have hz1 := hk1'.size
    have hz2d : w2.drew.heap.size = w2.heap.size := rfl
    have hz3 := hk3.size
    refine (hm1.kept0 hk14).app (r := q1) EL_29 (hq1.kept0 hk4) (fun g hg => ⟨by have := hF1 g hg; omega, fun hm => by have := hF1 g hg; have := hm1.own.lt g hm; omega, fun r hr hm => by have := hF1 g hg; have := (hm1.ok r hr).lt g hm; omega⟩) hat4 (by omega) (by omega) (by omega) fun m' w5 G1' hm5 hk5 hG1 => ?_
    have hG1n : w1.heap.size ∉ G1 := fun hm => by have := hm1.own.lt _ hm; omega
    have hc5 : w5.cell? ⟨w1.heap.size, 1, none⟩ = some qv := ((hbp.kept hk24 (by simp)).kept hk5 hG1n).cell (o := 1)
    refine (still1 ONE_32 hc5).2 ?_
    have hk05 : Kept [] w w5 := (hk1'.then hk14 (by simp)).then hk5 (fun g hg => .inr (hm1.fresh g hg))
    refine cloneS (hqok.kept0 hk05) (by rw [hqs]; exact hsz) fun q2 w6 hq2 hx2 hF2 hk6 => ?_
    refine xE_one EL_29 hq2.one fun w7 hat7 hk7 hz7 => ?_
    have hk57 := hk6.then hk7 (by simp)
    have hz5 := hk5.size
    have hz6 := hk6.size
    have ho5 : Out 32 5 w w5 o ro G2 := Out.keptB (ho1.kept0 hk14) hk5 (fun g hg hm => hdj g (List.mem_append_left _ hm) hg)
    refine (ho5.kept0 hk57).app (r := q2) EL_29 (hq2.kept0 hk7) (fun g hg => ⟨by have := hF2 g hg; omega, fun hm => by have := hF2 g hg; have := ho1.own.lt g hm; omega, fun r hr hm => by have := hF2 g hg; have := (ho1.ok r hr).lt g hm; omega⟩) hat7 (by omega) (by omega) (by omega) fun o' w8 G2' ho8 hk8 hG2 => ?_
    try simp only [xP_nil, xP_pick, xP_func, xP_not, xP_add, xP_sub, xP_mul, xP_lss, xP_leq, xP_gtr, xP_geq, xP_max2, xP_min2, xR_eql, xR_neq, Nat.zero_add, Nat.add_zero, Nat.reduceAdd, List.getD_cons_zero, List.getD_cons_succ, xIf_true, xIf_false, FA_35_0, FA_35_1, FA_66_0, FA_66_1, FA_66_2, FA_82_0, FA_82_1, FA_82_2, FA_86_0, FA_86_1, LEN_29, LEN_32, LEN_47, LEN_48, LEN_79, LEN_116]
    rw [wrap64 (by omega) (by omega)]
    have hb1 := Out.bl_lt hm1
    have hb2 := Out.bl_lt ho1
    have hB1 : ∀ g ∈ Bl (rm ++ [q1]) G1', g ∈ Bl rm G1 ∨ (w1.heap.size ≤ g ∧ g < w5.heap.size) := fun g hg => by
      have hlt := Out.bl_lt hm5 g hg
      rcases List.mem_append.1 hg with hg | hg
      · rcases hG1 g hg with hg | hg
        · exact .inl (List.mem_append_left _ hg)
        · exact .inr ⟨by omega, hlt⟩
      · rw [List.flatMap_append] at hg
        rcases List.mem_append.1 hg with hg | hg
        · exact .inl (List.mem_append_right _ hg)
        · simp at hg
          exact .inr ⟨by have := hF1 g hg; omega, hlt⟩
    have hB2 : ∀ g ∈ Bl (ro ++ [q2]) G2', g ∈ Bl ro G2 ∨ w5.heap.size ≤ g := fun g hg => by
      rcases List.mem_append.1 hg with hg | hg
      · rcases hG2 g hg with hg | hg
        · exact .inl (List.mem_append_left _ hg)
        · exact .inr (by omega)
      · rw [List.flatMap_append] at hg
        rcases List.mem_append.1 hg with hg | hg
        · exact .inl (List.mem_append_right _ hg)
        · simp at hg
          exact .inr (hF2 g hg)
    have hm8 : Out 32 5 w w8 m' (rm ++ [q1]) G1' := Out.keptB (hm5.kept0 hk57) hk8 (fun g hg hm => by
      have h2 : g ∈ Bl ro G2 := List.mem_append_left _ hm
      rcases hB1 g hg with hg | hg
      · exact hdj g hg h2
      · have := hb2 g h2; omega)
    refine ⟨⟨i + 1, m', o', rm ++ [q1], ro ++ [q2], G1', G2', rfl, by omega, hm8, ho8, fun g hg hm => ?_, by rw [htk, List.map_append, List.map_append, hrm]; simp [hx1], by rw [htk, List.map_append, List.map_append, hro]; simp [hx2], (hk05.then hk57 (by simp)).then hk8 (fun g hg => .inr (ho1.fresh g hg))⟩, by omega⟩
    rcases hB1 g hg with hg1 | ⟨hg1, hg2⟩
    · rcases hB2 g hm with hm | hm
      · exact hdj g hg1 hm
      · have := hb1 g hg1; omega
    · rcases hB2 g hm with hm | hm
      · have := hb2 g hm; omega
      · omega
  · obtain rfl : i = l.length := by omega
    rw [List.take_length] at hrm hro
    have hlm : rm.length = k := by have := congrArg List.length hrm; rw [List.length_map, List.length_map] at this; omega
    have hlo : ro.length = k := by have := congrArg List.length hro; rw [List.length_map, List.length_map] at this; omega
    have hx1 : ∀ t, t < k → (rm.getD t dRq).x = (ptR k l t).1 := fun t ht => by
      have := congrArg (fun l : List (List UInt8) => l[t]?) hrm
      simp only [List.getElem?_map] at this
      rw [List.getElem?_eq_getElem (by omega), List.getElem?_eq_getElem (by omega)] at this
      simp only [Option.map_some, Option.some.injEq] at this
      unfold ptR
      rw [getD_lt (by omega), getD_lt (by omega)]
      exact this
    have hx2 : ∀ t, t < k → (ro.getD t dRq).x = (ptR k l t).2 := fun t ht => by
      have := congrArg (fun l : List (List UInt8) => l[t]?) hro
      simp only [List.getElem?_map] at this
      rw [List.getElem?_eq_getElem (by omega), List.getElem?_eq_getElem (by omega)] at this
      simp only [Option.map_some, Option.some.injEq] at this
      unfold ptR
      rw [getD_lt (by omega), getD_lt (by omega)]
      exact this
    obtain ⟨g1, g2, hSt⟩ := St.of hm1 ho1 hdj hlm hlo (by omega)
    have hR0 : ∀ t, t < k → rp (fun i => (rm.getD i dRq, ro.getD i dRq)) t = ptR k l t := fun t ht => by
      unfold rp
      rw [hx1 t ht, hx2 t ht]
    have hgs : Gs k s (rp fun i => (rm.getD i dRq, ro.getD i dRq)) := ⟨fun t ht => by
        rw [hR0 t ht]; exact crow_len _ _, fun t ht => by
        rw [hR0 t ht]
        show (l.getD t dPt).d.length = s
        rw [getD_lt (by omega)]
        exact hs _ (List.getElem_mem _)⟩
    have hker : Ker k (rp fun i => (rm.getD i dRq, ro.getD i dRq)) := fun u hu => by
      refine crows_ker (ats := l.map fun q => q.at_.toNat) ?_ (by rw [List.length_map]; exact hll) (by omega) ?_ ?_
      · refine List.pairwise_iff_getElem.2 fun a b ha hb hab => ?_
        rw [List.length_map] at ha hb
        rw [List.getElem_map, List.getElem_map]
        have := List.pairwise_iff_getElem.1 hnd a b (by rwa [List.length_map]) (by rwa [List.length_map]) hab
        rw [List.getElem_map, List.getElem_map] at this
        have h1 := (hat _ (List.getElem_mem ha)).1
        have h2 := (hat _ (List.getElem_mem hb)).1
        intro e
        exact this (by omega)
      · intro a ha
        obtain ⟨q, hq, rfl⟩ := List.mem_map.1 ha
        have := hat q hq
        omega
      · intro a ha
        obtain ⟨q, hq, rfl⟩ := List.mem_map.1 ha
        obtain ⟨t, ht, rfl⟩ := List.getElem_of_mem hq
        have := hu t (by omega)
        rw [hR0 t (by omega)] at this
        unfold ptR at this
        rw [getD_lt ht] at this
        exact this
    have hsol : ∀ X, Sol k s X (rp fun i => (rm.getD i dRq, ro.getD i dRq)) → Sol k s X (ptR k l) := fun X hX t ht y hy => by
      have := hX t ht y hy
      rwa [hR0 t ht] at this
    have hrd : Round w w1 m o k s (ptR k l) 0 := ⟨⟨_, g1, g2, hSt, hgs, hker, fun t _ j hj => by omega, hsol⟩, hk1'⟩
    have hmlen := hm1.own
    rw [hlm] at hmlen
    refine (lenOwn hmlen).2 ?_
    clear hsol hker hgs hR0 hSt hx1 hx2 hrm hro hdj ho1 hm1 hmlen
    refine xLoop_of (fun ls w' => ∃ col : Nat, ls = [.int .i64 col] ∧ col ≤ k ∧ Round w w' m o k s (ptR k l) col) (fun ls _ => match ls with | [.int _ i] => k - i.toNat | _ => 0) ⟨0, rfl, by omega, hrd⟩ ?_
    clear hrd
    rintro _ _ w2 ⟨col, rfl, hcol, ⟨⟨q, g1, g2, hSt, hgs, hker, huni, hsol⟩, hk2⟩⟩
    simp only [xP_nil, xP_pick, xP_func, xP_not, xP_add, xP_sub, xP_mul, xP_lss, xP_leq, xP_gtr, xP_geq, xP_max2, xP_min2, xR_eql, xR_neq, Nat.zero_add, Nat.add_zero, Nat.reduceAdd, List.getD_cons_zero, List.getD_cons_succ, xIf_true, xIf_false, FA_35_0, FA_35_1, FA_66_0, FA_66_1, FA_66_2, FA_82_0, FA_82_1, FA_82_2, FA_86_0, FA_86_1, LEN_29, LEN_32, LEN_47, LEN_48, LEN_79, LEN_116, xIf_dec]
    refine ⟨fun hlt => ?_, fun hge => ?_⟩
    · have hck : col < k := by omega
      obtain ⟨t0, ht0c, ht0k, ht0⟩ := pivot_ex huni hker hck
      refine xLoop_of (fun ls w' => ∃ pv : Nat, ls = [.int .i64 pv] ∧ col ≤ pv ∧ pv < k ∧ (∀ t, col ≤ t → t < pv → (rp q t).1.getD col 0 = 0) ∧ w2 = w') (fun ls _ => match ls with | [.int _ i] => k - i.toNat | _ => 0) ⟨col, rfl, Nat.le_refl _, hck, fun t h1 h2 => by omega, rfl⟩ ?_
      rintro _ _ _ ⟨pv, rfl, hcp, hpk, hz, rfl⟩
      refine xJoin_of (fun ls w' => ls = [.bool (decide (pv + 1 < k ∧ (rp q pv).1.getD col 0 = 0))] ∧ w2 = w') ?_ ?_
      · refine (lenOwn hSt.own1).2 ?_
        try simp only [xP_nil, xP_pick, xP_func, xP_not, xP_add, xP_sub, xP_mul, xP_lss, xP_leq, xP_gtr, xP_geq, xP_max2, xP_min2, xR_eql, xR_neq, Nat.zero_add, Nat.add_zero, Nat.reduceAdd, List.getD_cons_zero, List.getD_cons_succ, xIf_true, xIf_false, FA_35_0, FA_35_1, FA_66_0, FA_66_1, FA_66_2, FA_82_0, FA_82_1, FA_82_2, FA_86_0, FA_86_1, LEN_29, LEN_32, LEN_47, LEN_48, LEN_79, LEN_116]
        rw [wrap64 (by omega) (by omega), xIf_dec]
        refine ⟨fun h1 => ?_, fun h1 => ⟨by rw [decide_eq_false (by omega)], by trivial⟩⟩
        refine (ownRow hSt.own1 hpk).2 ?_
        refine (byteAt (hSt.ok1 pv hpk).slT (by have e : (q pv).1.x.length = k := hgs.l1 pv hpk; omega)).2 ?_
        try simp only [xP_nil, xP_pick, xP_func, xP_not, xP_add, xP_sub, xP_mul, xP_lss, xP_leq, xP_gtr, xP_geq, xP_max2, xP_min2, xR_eql, xR_neq, Nat.zero_add, Nat.add_zero, Nat.reduceAdd, List.getD_cons_zero, List.getD_cons_succ, xIf_true, xIf_false, FA_35_0, FA_35_1, FA_66_0, FA_66_1, FA_66_2, FA_82_0, FA_82_1, FA_82_2, FA_86_0, FA_86_1, LEN_29, LEN_32, LEN_47, LEN_48, LEN_79, LEN_116]
        refine ⟨?_, by trivial⟩
        rw [decide_eq_decide.2 (show (((q pv).1.x.getD col 0).toNat : Int) = 0 ↔ (pv + 1 < k ∧ (rp q pv).1.getD col 0 = 0) from u8_zero.trans ⟨fun e => ⟨by omega, e⟩, fun e => e.2⟩)]
      rintro _ _ _ ⟨rfl, rfl⟩
      simp only [List.getD_cons_zero, xIf_dec]
      refine ⟨fun hgo => ?_, fun hstop => ?_⟩
      · try simp only [xP_nil, xP_pick, xP_func, xP_not, xP_add, xP_sub, xP_mul, xP_lss, xP_leq, xP_gtr, xP_geq, xP_max2, xP_min2, xR_eql, xR_neq, Nat.zero_add, Nat.add_zero, Nat.reduceAdd, List.getD_cons_zero, List.getD_cons_succ, xIf_true, xIf_false, FA_35_0, FA_35_1, FA_66_0, FA_66_1, FA_66_2, FA_82_0, FA_82_1, FA_82_2, FA_86_0, FA_86_1, LEN_29, LEN_32, LEN_47, LEN_48, LEN_79, LEN_116]
        rw [wrap64 (by omega) (by omega)]
        refine ⟨⟨pv + 1, rfl, by omega, by omega, fun t h1 h2 => ?_, by trivial⟩, by omega⟩
        by_cases h3 : t = pv
        · rw [h3]; exact hgo.2
        · exact hz t h1 (by omega)
      · have hne : (rp q pv).1.getD col 0 ≠ 0 := by
          intro e
          by_cases h1 : pv + 1 < k
          · exact hstop ⟨h1, e⟩
          · by_cases h2 : t0 = pv
            · rw [h2] at ht0; exact ht0 e
            · exact ht0 (hz t0 ht0c (by omega))
        have hd2 := kept_drew [] w2
        have hSd := hSt.kept0 hd2
        try simp only [xP_nil, xP_pick, xP_func, xP_not, xP_add, xP_sub, xP_mul, xP_lss, xP_leq, xP_gtr, xP_geq, xP_max2, xP_min2, xR_eql, xR_neq, Nat.zero_add, Nat.add_zero, Nat.reduceAdd, List.getD_cons_zero, List.getD_cons_succ, xIf_true, xIf_false, FA_35_0, FA_35_1, FA_66_0, FA_66_1, FA_66_2, FA_82_0, FA_82_1, FA_82_2, FA_86_0, FA_86_1, LEN_29, LEN_32, LEN_47, LEN_48, LEN_79, LEN_116]
        refine (ownRow hSd.own1 hpk).2 ?_
        refine (ownRow hSd.own1 hck).2 ?_
        refine (ownRow hSd.own2 hpk).2 ?_
        refine (ownRow hSd.own2 hck).2 ?_
        refine hSd.swap hck hpk fun w3 h3 hk3 => ?_
        have hk03 : Kept [] w w3 := (hk2.then hd2 (by simp)).then hk3 (by intro g hg; simp at hg; rcases hg with rfl | rfl; exact .inr hSt.f1; exact .inr hSt.f2)
        have hgs1 := hgs.swp hck hpk
        have hker1 := hker.swp hck hpk
        have huni1 := huni.swp hck hpk hcp
        have hat1 : swpF (rp q) col pv col = rp q pv := swp_at
        rw [← rp_swp] at hgs1 hker1 huni1 hat1
        have hrp1 : rp (swpQ q col pv) = swpF (rp q) col pv := rfl
        generalize swpQ q col pv = q1 at *
        have hd3 := kept_drew [] w3
        have hS3 := h3.kept0 hd3
        have hk03d := hk03.then hd3 (by simp)
        obtain ⟨L0, L1, L2⟩ := h.ld hk03d
        refine ownRowA hS3.own1 hck fun A1 hA1 => ?_
        refine ownRowA hS3.own2 hck fun A2 hA2 => ?_
        simp only [xP_nil, xP_pick, xP_func, xP_not, xP_add, xP_sub, xP_mul, xP_lss, xP_leq, xP_gtr, xP_geq, xP_max2, xP_min2, xR_eql, xR_neq, Nat.zero_add, Nat.add_zero, Nat.reduceAdd, List.getD_cons_zero, List.getD_cons_succ, xIf_true, xIf_false, FA_35_0, FA_35_1, FA_66_0, FA_66_1, FA_66_2, FA_82_0, FA_82_1, FA_82_2, FA_86_0, FA_86_1, LEN_29, LEN_32, LEN_47, LEN_48, LEN_79, LEN_116, L1]
        refine (ownRow hS3.own1 hck).2 ?_
        have e1 : (q1 col).1.x.length = k := hgs1.l1 col hck
        have e2 : (q1 col).2.x.length = s := hgs1.l2 col hck
        refine (byteAt (hS3.ok1 col hck).slT (by omega)).2 ?_
        refine finvS (h.fld.kept hk03d (by simp)) fun w4 hk4 => ?_
        refine (still1 ONE_32 (hA2 w4 hk4)).2 ?_
        refine (still1 ONE_32 (hA1 w4 hk4)).2 ?_
        have hS4 := hS3.kept0 hk4
        have hk04 := hk03d.then hk4 (by simp)
        have hxe : (q1 col).1.x = (rp q pv).1 := congrArg (·.1) hat1
        have hx0 : uinv ((q1 col).1.x.getD col 0) ≠ 0 := by rw [hxe]; exact uinv_ne hne
        have h1at : (sclF (rp q1) col (uinv ((q1 col).1.x.getD col 0)) col).1.getD col 0 = 1 := by
          rw [scl_at, scl_get]
          show umul (uinv ((q1 col).1.x.getD col 0)) ((q1 col).1.x.getD col 0) = 1
          rw [hxe, umul_comm, umul_inv hne]
        generalize uinv ((q1 col).1.x.getD col 0) = x at *
        refine xE_call CF_49 (scale_ok (h.blk.kept hk04 (by simp)) (h.fld.kept hk04 (by simp)) (hS4.ok1 col hck) (hS4.ok2 col hck) (fun g hg => by have := (hS4.rf1 col hck g hg).1; omega) (fun g hg => by have := (hS4.rf2 col hck g hg).1; omega) (hS4.d12 col hck col hck) (by omega) (by omega)) ?_
        rintro _ w5 ⟨ho1, ho2, hk5⟩
        have h5 := hS4.upd hck hk5 (a := scl (q1 col).1.x x) (b := scl (q1 col).2.x x) (by rw [scl_len]; exact ho1) (by rw [scl_len]; exact ho2)
        have hk05 : Kept [] w w5 := hk04.then hk5 (fun g hg => by
          rcases List.mem_append.1 hg with hg | hg
          · exact .inr (hS4.rf1 col hck g hg).1
          · exact .inr (hS4.rf2 col hck g hg).1)
        have hrp2 : rp (updQ q1 col (scl (q1 col).1.x x) (scl (q1 col).2.x x)) = sclF (rp q1) col x := by
          funext t
          rw [rp_upd]
          rfl
        generalize updQ q1 col (scl (q1 col).1.x x) (scl (q1 col).2.x x) = q2 at *
        have hgs2 : Gs k s (sclF (rp q1) col x) := hgs1.scl
        have hker2 : Ker k (sclF (rp q1) col x) := hker1.scl hx0
        have huni2 : Uni k col (sclF (rp q1) col x) := huni1.scl
        refine (lenOwn h5.own1).2 ?_
        refine xLoop_of (fun ls w' => ∃ i : Nat, ls = [.int .i64 i] ∧ i ≤ k ∧ St w w' m o k (elimQ q2 col i) g1 g2 ∧ Kept [] w w') (fun ls _ => match ls with | [.int _ i] => k - i.toNat | _ => 0) ⟨0, rfl, by omega, by rw [elimQ_zero]; exact h5, hk05⟩ ?_
        rintro _ _ w6 ⟨i, rfl, hi, h6, hk6⟩
        simp only [xP_nil, xP_pick, xP_func, xP_not, xP_add, xP_sub, xP_mul, xP_lss, xP_leq, xP_gtr, xP_geq, xP_max2, xP_min2, xR_eql, xR_neq, Nat.zero_add, Nat.add_zero, Nat.reduceAdd, List.getD_cons_zero, List.getD_cons_succ, xIf_true, xIf_false, FA_35_0, FA_35_1, FA_66_0, FA_66_1, FA_66_2, FA_82_0, FA_82_1, FA_82_2, FA_86_0, FA_86_1, LEN_29, LEN_32, LEN_47, LEN_48, LEN_79, LEN_116, xIf_dec]
        refine ⟨fun hli => ?_, fun hgi => ?_⟩
        · have hik : i < k := by omega
          refine xJoin_of (fun ls w' => ls = [] ∧ St w w' m o k (elimQ q2 col (i + 1)) g1 g2 ∧ Kept [] w w') ?_ ?_
          · have hqi : elimQ q2 col i i = q2 i := elimQ_from _ (Nat.le_refl _)
            have hqc : elimQ q2 col i col = q2 col := elimQ_at _ _ _
            have hgq : Gs k s (rp q2) := by rw [hrp2]; exact hgs2
            have l1 : (q2 i).1.x.length = k := hgq.l1 i hik
            have l2 : (q2 i).2.x.length = s := hgq.l2 i hik
            have l3 : (q2 col).1.x.length = k := hgq.l1 col hck
            have l4 : (q2 col).2.x.length = s := hgq.l2 col hck
            refine (ownRow h6.own1 hik).2 ?_
            refine (byteAt (h6.ok1 i hik).slT (by rw [hqi]; omega)).2 ?_
            rw [hqi]
            refine xJoin_of (fun ls w' => ls = [.bool (decide (i ≠ col ∧ (q2 i).1.x.getD col 0 ≠ 0))] ∧ w6 = w') ?_ ?_
            · try simp only [xP_nil, xP_pick, xP_func, xP_not, xP_add, xP_sub, xP_mul, xP_lss, xP_leq, xP_gtr, xP_geq, xP_max2, xP_min2, xR_eql, xR_neq, Nat.zero_add, Nat.add_zero, Nat.reduceAdd, List.getD_cons_zero, List.getD_cons_succ, xIf_true, xIf_false, FA_35_0, FA_35_1, FA_66_0, FA_66_1, FA_66_2, FA_82_0, FA_82_1, FA_82_2, FA_86_0, FA_86_1, LEN_29, LEN_32, LEN_47, LEN_48, LEN_79, LEN_116]
              try rw [xIf_dec]
              refine ⟨fun h1 => ⟨?_, by trivial⟩, fun h1 => ⟨by rw [decide_eq_false (fun h2 => h1 (by omega))], by trivial⟩⟩
              rw [decide_eq_decide.2 (show (((q2 i).1.x.getD col 0).toNat : Int) ≠ 0 ↔ (i ≠ col ∧ (q2 i).1.x.getD col 0 ≠ 0) from u8_ne.trans ⟨fun e => ⟨by omega, e⟩, fun e => e.2⟩)]
            rintro _ _ _ ⟨rfl, rfl⟩
            simp only [List.getD_cons_zero, xIf_dec]
            refine ⟨fun hgo => ?_, fun hno => ?_⟩
            · have := addRows (x := (q2 i).1.x.getD col 0) (R := fun w' => ([] : List Value) = [] ∧ St w w' m o k (elimQ q2 col (i + 1)) g1 g2 ∧ Kept [] w w') h h6 hk6 hik hck hgo.1 (by rw [hqi, hqc, l1, l3]) (by rw [hqi, hqc, l2, l4]) (by rw [hqi]; omega) (by rw [hqi]; omega) fun w7 h7 hk7 => by
                rw [hqi, hqc] at h7
                rw [elimQ_upd hgo.1]
                exact ⟨rfl, h7, hk7⟩
              try simp only [xP_nil, xP_pick, xP_func, xP_not, xP_add, xP_sub, xP_mul, xP_lss, xP_leq, xP_gtr, xP_geq, xP_max2, xP_min2, xR_eql, xR_neq, Nat.zero_add, Nat.add_zero, Nat.reduceAdd, List.getD_cons_zero, List.getD_cons_succ, xIf_true, xIf_false, FA_35_0, FA_35_1, FA_66_0, FA_66_1, FA_66_2, FA_82_0, FA_82_1, FA_82_2, FA_86_0, FA_86_1, LEN_29, LEN_32, LEN_47, LEN_48, LEN_79, LEN_116]
              simpa only [xP_nil, xP_pick, xP_func, xP_not, xP_add, xP_sub, xP_mul, xP_lss, xP_leq, xP_gtr, xP_geq, xP_max2, xP_min2, xR_eql, xR_neq, Nat.zero_add, Nat.add_zero, Nat.reduceAdd, List.getD_cons_zero, List.getD_cons_succ, xIf_true, xIf_false, FA_35_0, FA_35_1, FA_66_0, FA_66_1, FA_66_2, FA_82_0, FA_82_1, FA_82_2, FA_86_0, FA_86_1, LEN_29, LEN_32, LEN_47, LEN_48, LEN_79, LEN_116] using this
            · rw [elimQ_skip (Classical.byContradiction fun hx => hno ⟨fun e => hx (.inl e), fun e => hx (.inr ⟨by rw [l1, l3], by rw [l2, l4], e⟩)⟩)]
              exact ⟨by trivial, h6, hk6⟩
          rintro _ _ w7 ⟨rfl, h7, hk7⟩
          rw [wrap64 (by omega) (by omega)]
          exact ⟨⟨i + 1, rfl, by omega, h7, hk7⟩, by omega⟩
        · obtain rfl : i = k := by omega
          rw [wrap64 (by omega) (by omega)]
          refine ⟨⟨col + 1, rfl, by omega, ⟨⟨elimQ q2 col i, g1, g2, h6, ?_, ?_, ?_, ?_⟩, hk6⟩⟩, by omega⟩
          · rw [rp_elim, hrp2]; exact hgs2.elim hck _
          · rw [rp_elim, hrp2]; exact hker2.elim hgs2 hck
          · rw [rp_elim, hrp2]; exact huni2.elim hgs2 hck h1at
          · intro X hX
            rw [rp_elim, hrp2] at hX
            have h7 := (hX.unelim hgs2 hck).unscl hx0
            rw [hrp1] at h7
            exact hsol X (h7.unswp hck hpk)
    · obtain rfl : col = k := by omega
      refine ⟨(List.range col).map fun i => (q i).2.x, by simp, fun b hb => ?_, hSt.gone, hsol _ ?_, hk2⟩
      · obtain ⟨i, hi, rfl⟩ := List.mem_map.1 hb
        exact hgs.l2 i (List.mem_range.1 hi)
      · have := huni.sol (s := s)
        intro t ht y hy
        rw [this t ht y hy]
        refine lin_congr fun j hj => ?_
        show (q j).2.x.getD y 0 = (((List.range col).map fun i => (q i).2.x).getD j []).getD y 0
        rw [getD_lt (l := (List.range col).map fun i => (q i).2.x) (by simpa using hj), List.getElem_map, List.getElem_range]
end Go.Proofs.YtoanmeohlpdjfaaDoor
