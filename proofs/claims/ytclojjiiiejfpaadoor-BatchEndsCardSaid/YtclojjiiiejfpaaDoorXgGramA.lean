import Derived.Test.YtclojjiiiejfpaaDoorXgGram9
import Derived.Test.YtclojjiiiejfpaaDoorXCopy2
namespace Go.Proofs.YtclojjiiiejfpaaDoor
set_option linter.unusedSimpArgs false
set_option linter.unusedVariables false
set_option maxRecDepth 100000
attribute [local irreducible] Go.X.xE
open Go Go.X Go.RowKit

theorem buildNS {n : Int} {s : ByteArray} : Tryd.prog.built 32 #[(0, Value.int .i64 n), (1, .string s)].toList = some (encV ⟨n, s, .slice none 0 0⟩).toArray := by kernel_rfl
theorem takeS {s : ByteArray} {k : Nat} {K : Value → Prop} (hk : k ≤ 1000) : (xP Tryd.prog (sB .len #[9] #[.string s]) fun v35 => xP Tryd.prog (sB .min #[3, 3] #[v35, .int .i64 (k : Nat)]) fun v36 => xP Tryd.prog (sSlice 9 (.string s) none (some v36) none) K) ↔ K (.string (gcut k s)) := by
  rw [xP_lenS STR, xP_min2, xP_toS STR (by omega) (by omega)]
  have : s.extract 0 (min ((s.size : Nat) : Int) (k : Nat)).toNat = gcut k s := extract_min
  rw [this]

theorem few_ok {fs : List GFd} {raws : List RawV} {vs : List GVl} {fv vv : Value} {w : World} (hf : SlT w encF fv fs) (hv : SlT w encV vv raws) (hr : IsRow w raws vs) :
    Gives Tryd.prog 22 #[fv, vv] w fun u w' => ∃ fv' vv' raws', u = .tuple #[fv', vv'] ∧ SlT w' encF fv' (fs.take 6) ∧ SlT w' encV vv' raws' ∧ IsRow w' raws' (fewV vs) ∧ Kept [] w w' := by
  refine C_stavelaw2_few ?_
  unfold S_stavelaw2_few
  obtain ⟨va, vc, rfl, hvc, hvr⟩ := hv
  have hv : SlT w encV (.slice va raws.length vc) raws := ⟨va, vc, rfl, hvc, hvr⟩
  obtain ⟨C, hC⟩ : ∃ C, C = w.heap.size := ⟨_, rfl⟩
  have hrl := hr.1
  refine xLoop_of (fun ls w' => ∃ (i : Nat) (o : Value) (F : List Nat) (ro : List RawV), ls = [o, .int .i64 i] ∧ i ≤ vs.length ∧ i ≤ 6 ∧ ro.length = i ∧ Own w' 32 3 o i (ro.flatMap encV) F ∧ (∀ g ∈ F, C ≤ g) ∧ IsRow w' ro ((vs.take i).map cutV) ∧ (∀ x ∈ ro, Fr C x.lv ∧ Lt w'.heap.size x.lv ∧ Off F x.lv) ∧ Kept [] w w')
    (fun ls _ => match ls with | [_, .int _ i] => 6 - i.toNat | _ => 0) ⟨0, .slice none 0 0, [], [], rfl, by omega, by omega, rfl, own_nil _ _ _, by simp, IsRow.nil _, by simp, Kept.refl _ _⟩ ?_
  rintro _ _ w1 ⟨i, o, F, ro, rfl, hi, hi6, hro, ho, hF, hrow, hfr, hk1⟩
  have hz1 := hk1.size
  refine xTest2 SL_33 (fun hlt h6 => ?_) (fun hge => ?_)
  · intro _
    simp only [xIf_true, List.getD_cons_zero, List.getD_cons_succ]
    have hiv : i < vs.length := by omega
    obtain ⟨hir, hx⟩ := hr.get hiv
    have hkd := hk1.drew
    have e2 : ((vs.take (i + 1)).map cutV) = (vs.take i).map cutV ++ [cutV vs[i]] := by
      rw [List.take_succ_eq_append_getElem hiv, List.map_append]; rfl
    generalize hvi : vs[i] = v at *
    generalize hri : raws[i] = x at *
    have fl : ∀ (q : Nat) (X : TypeId) (uu : Value) (K : Value → Value → Prop) (w' : World), Kept [] w w' → fieldB Tryd.prog 32 q q = true → oneB Tryd.prog X = true → (encV x)[q]? = some uu →
        (∀ A : Addr, (∀ w'', Kept [] w w'' → w''.cell? A = some uu) → K (.pointer (some A)) uu) →
        (xP Tryd.prog (sIA 33 (.slice va raws.length vc) (.int .i64 (i : Nat))) fun v => xP Tryd.prog (sFA 32 v q) fun c => xR Tryd.prog (sLoad X c) w' fun u => K c u) :=
      fun q X uu K w' hk' hB hX hu hK => rowV.fldA hv hk' hir hB hX (by rw [hri]; exact hu) hK
    refine fl 0 3 _ _ _ hkd (by kernel_rfl) ONE_3 rfl fun A0 h0 => ?_
    refine fl 1 9 _ _ _ hkd (by kernel_rfl) ONE_9 rfl fun A1 h1 => ?_
    refine fl 1 9 _ _ _ hkd (by kernel_rfl) ONE_9 rfl fun A2 h2 => ?_
    refine (takeS (k := 40) (by omega)).2 ?_
    refine (xP_build buildNS).2 ?_
    refine xE_alloc Z_32 fun w2 hb2 hk2 hz2 => ?_
    rw [show w1.drew.heap.size = w1.heap.size from rfl] at hb2 hz2 ⊢
    have hk12 : Kept [] w1 w2 := (kept_drew [] w1).then hk2 (by simp)
    have hk02 := hk1.then hk12 (by simp)
    refine (still1 ONE_9 (h2 _ hk02)).2 ?_
    refine (still1 ONE_9 (h1 _ hk02)).2 ?_
    refine (still1 ONE_3 (h0 _ hk02)).2 ?_
    generalize hV : w1.heap.size = V at *
    refine xE_storeN (l1 := []) (l2 := encV rawZero) (l3 := []) SZ_32 hb2 rfl rfl rfl (by intro u hu; simp [encV, Value.cells] at hu; rcases hu with rfl | rfl | rfl <;> rfl) fun w3 hb3 hk3 hz3 => ?_
    have hb3' : Blk w3 V 32 (encV ⟨x.n, gcut 40 x.s, .slice none 0 0⟩) := by simpa [Value.cells] using hb3
    have hk13 : Kept [] w1 w3 := hk12.then hk3 (by simp; omega)
    obtain ⟨la, lc, elv, hlc, hlr⟩ := hx.2.2
    have hxl : SlT w encS x.lv v.l := ⟨la, lc, elv, hlc, hlr⟩
    refine xLoop_of (fun ls w' => ∃ (j : Nat) (lv : Value) (F2 : List Nat), ls = [.int .i64 j] ∧ j ≤ v.l.length ∧ j ≤ 4 ∧ Own w' 9 1 lv j (((v.l.take j).map (gcut 20)).flatMap encS) F2 ∧ (∀ g ∈ F2, V + 1 ≤ g) ∧ lv.oneCell' = true ∧ Blk w' V 32 (encV ⟨x.n, gcut 40 x.s, lv⟩) ∧ Kept [] w1 w' ∧ V + 1 ≤ w'.heap.size)
      (fun ls _ => match ls with | [.int _ j] => 4 - j.toNat | _ => 0) ⟨0, .slice none 0 0, [], rfl, by omega, by omega, own_nil _ _ _, by simp, rfl, hb3', hk13, by omega⟩ ?_
    rintro _ _ w4 ⟨j, lv, F2, rfl, hj, hj4, ho4, hF4, hone4, hb4, hk14, hz4⟩
    have hk04 := hk1.then hk14 (by simp)
    refine xJoin_of (fun vs' w' => vs' = [.bool (decide (j < v.l.length ∧ j < 4))] ∧ w4 = w') ?_ ?_
    · refine fl 2 30 _ _ _ hk04 (by kernel_rfl) ONE_30 rfl fun A3 h3 => ?_
      rw [elv]
      simp only [xP_nil, xP_pick, xP_func, xP_not, xP_add, xP_sub, xP_mul, xP_lss, xP_leq, xP_gtr, xP_geq, xP_max2, xP_min2, xR_eql, xR_neq, Nat.zero_add, Nat.add_zero, Nat.reduceAdd, List.getD_cons_zero, List.getD_cons_succ, xIf_true, xIf_false, FA_23_0, FA_23_1, FA_23_2, FA_23_3, FA_23_4, FA_32_0, FA_32_1, FA_32_2, FA_63_0, FA_63_1, FA_63_2, FA_63_3, FA_80_0, FA_80_1, FA_80_2, FA_85_0, FA_85_1, FA_85_2, LEN_24, LEN_25, LEN_30, LEN_33, LEN_58, LEN_82, LEN_134, xIf_dec]
      refine ⟨fun h1 => ⟨by rw [decide_eq_decide.2 (show ((j : Int) < 4) ↔ (j < v.l.length ∧ j < 4) by omega)], trivial⟩, fun h1 => ⟨by rw [decide_eq_false (show ¬ (j < v.l.length ∧ j < 4) by omega)], trivial⟩⟩
    rintro _ _ _ ⟨rfl, rfl⟩
    simp only [List.getD_cons_zero, xIf_dec]
    refine ⟨fun hgo => ?_, fun hstop => ?_⟩
    · have hd4 := kept_drew [] w4
      obtain ⟨N0, N1, N2, N3⟩ := ldV (x := ⟨x.n, gcut 40 x.s, lv⟩) (blk_drew hb4)
      simp only [xP_nil, xP_pick, xP_func, xP_not, xP_add, xP_sub, xP_mul, xP_lss, xP_leq, xP_gtr, xP_geq, xP_max2, xP_min2, xR_eql, xR_neq, Nat.zero_add, Nat.add_zero, Nat.reduceAdd, List.getD_cons_zero, List.getD_cons_succ, xIf_true, xIf_false, FA_23_0, FA_23_1, FA_23_2, FA_23_3, FA_23_4, FA_32_0, FA_32_1, FA_32_2, FA_63_0, FA_63_1, FA_63_2, FA_63_3, FA_80_0, FA_80_1, FA_80_2, FA_85_0, FA_85_1, FA_85_2, LEN_24, LEN_25, LEN_30, LEN_33, LEN_58, LEN_82, LEN_134, N2]
      have hk0d := hk04.drew
      refine fl 2 30 _ _ _ hk0d (by kernel_rfl) ONE_30 rfl fun A3 h3 => ?_
      refine (rowS.get hxl hk0d hgo.1).2 ?_
      refine fl 2 30 _ _ _ hk0d (by kernel_rfl) ONE_30 rfl fun A4 h4 => ?_
      refine (rowS.get hxl hk0d hgo.1).2 ?_
      refine (takeS (k := 20) (by omega)).2 ?_
      refine xE_buildSlice EL_30 [.string (gcut 20 v.l[j])] rfl rfl (by simp [Value.cells]) (by omega) (by omega) fun w5 hb5 hk5 hz5 => ?_
      have hk45 : Kept [] w4 w5 := hd4.then hk5 (by simp)
      refine (still1 ONE_30 (v := lv) ((hb4.kept hk45 (by simp)).cell (o := 2))).2 ?_
      have hat : At w5 w4.drew.heap.size 0 ([gcut 20 v.l[j]].flatMap encS) := hb5.at
      refine xE_append (m := 1) EL_30 (ho4.kept hk45 (by simp)) hat rfl (by simp [encS]; rfl) (by omega) (by unfold maxLen; omega) (by omega) fun lv' w6 F6 ho6 hk6 hF6 hone6 => ?_
      have hnV : V ∉ F2 := fun hm => by have := hF4 _ hm; omega
      have hb6 := (hb4.kept hk45 (by simp)).kept hk6 hnV
      have hz45 := hk45.size
      have hz6 := hk6.size
      try simp only [xP_nil, xP_pick, xP_func, xP_not, xP_add, xP_sub, xP_mul, xP_lss, xP_leq, xP_gtr, xP_geq, xP_max2, xP_min2, xR_eql, xR_neq, Nat.zero_add, Nat.add_zero, Nat.reduceAdd, List.getD_cons_zero, List.getD_cons_succ, xIf_true, xIf_false, FA_23_0, FA_23_1, FA_23_2, FA_23_3, FA_23_4, FA_32_0, FA_32_1, FA_32_2, FA_63_0, FA_63_1, FA_63_2, FA_63_3, FA_80_0, FA_80_1, FA_80_2, FA_85_0, FA_85_1, FA_85_2, LEN_24, LEN_25, LEN_30, LEN_33, LEN_58, LEN_82, LEN_134]
      refine xE_store1 SZ_30 hb6 (by simp [encV]) hone6 fun w7 hb7 hk7 hz7 => ?_
      rw [wrap64 (by omega) (by omega)]
      have hF6' : ∀ g ∈ F6, V + 1 ≤ g := fun g hg => (hF6 g hg).elim (hF4 g) (fun h => by omega)
      refine ⟨⟨j + 1, lv', F6, rfl, hgo.1, by omega, ?_, hF6', hone6, by simpa [encV] using hb7, ((hk14.then hk45 (by simp)).then hk6 (fun g hg => .inr (by have := hF4 g hg; omega))).then hk7 (by simp; omega), by omega⟩, by omega⟩
      rw [List.take_succ_eq_append_getElem hgo.1, List.map_append, List.flatMap_append]
      exact ho6.kept hk7 (fun g hg hm => by have := hF6' g hg; simp at hm; omega)
    · have etk : v.l.take j = v.l.take 4 := by
        rcases Nat.lt_or_ge j v.l.length with h1 | h1
        · have : j = 4 := by omega
          rw [this]
        · rw [List.take_of_length_le (by omega), List.take_of_length_le (by omega)]
      rw [etk] at ho4
      have hjl : j = ((v.l.take 4).map (gcut 20)).length := by rw [List.length_map, ← etk, List.length_take]; omega
      have hlv4 : SlT w4 encS lv ((v.l.take 4).map (gcut 20)) := by rw [hjl] at ho4; exact ho4.slT encS_len (by omega)
      obtain ⟨N0, N1, N2, N3⟩ := ldV (x := ⟨x.n, gcut 40 x.s, lv⟩) hb4
      simp only [N3]
      have hx4 : IsV w4 ⟨x.n, gcut 40 x.s, lv⟩ (cutV v) := ⟨hx.1, by show gcut 40 x.s = gcut 40 v.s; rw [hx.2.1], hlv4⟩
      have hfx : Fr (V + 1) lv := fun bb oo n cc he => hF4 _ (ho4.addr bb oo n cc he)
      have hlx : Lt w4.heap.size lv := fun bb oo n cc he => ho4.lt _ (ho4.addr bb oo n cc he)
      have hxone : ∀ u ∈ encV ⟨x.n, gcut 40 x.s, lv⟩, u.oneCell' = true := encV_one hone4
      refine xE_buildSlice EL_33 [vV ⟨x.n, gcut 40 x.s, lv⟩] rfl rfl (by simp [vV, encV, Value.cells]) (by omega) (by omega) fun w5 hb5 hk5 hz5 => ?_
      have hat : At w5 w4.heap.size 0 ([(⟨x.n, gcut 40 x.s, lv⟩ : RawV)].flatMap encV) := by
        have := hb5.at
        simpa [vV, Value.cells] using this
      have hk15 : Kept [] w1 w5 := hk14.then hk5 (by simp)
      refine xE_append (m := 1) EL_33 (ho.kept hk15 (by simp)) hat (by rw [flat_len encV_len]; rfl) (by intro a ha; simp at ha; exact hxone a ha) (by omega) (by unfold maxLen; omega) (by omega) fun o' w6 F' ho' hk6 hF' _ => ?_
      refine xP_add.2 ?_
      rw [wrap64 (by omega) (by omega)]
      have hz15 := hk15.size
      have hz5' := hk5.size
      have hz6 := hk6.size
      have hFlt : ∀ g ∈ F, g < V := by rw [← hV]; exact ho.lt
      have hxoff : Off F lv := fun bb oo n cc hv hm => by
        have := hfx bb oo n cc hv
        have := hFlt bb hm
        omega
      have hF2' : ∀ g ∈ F', C ≤ g := fun g hg => (hF' g hg).elim (hF g) (fun h => by omega)
      refine ⟨⟨i + 1, o', F', ro ++ [⟨x.n, gcut 40 x.s, lv⟩], rfl, by omega, by omega, by simp [hro], by rw [List.flatMap_append]; simpa using ho', hF2', ?_, ?_, (hk1.then hk15 (by simp)).then hk6 (fun g hg => .inr (by have := hF g hg; omega))⟩, by simp only; omega⟩
      · rw [e2]
        exact ((hrow.kept0 hk15).keptOff (fun y hy => (hfr y hy).2.2) hk6).snoc (IsV.keptOff (hx4.kept0 hk5) hxoff hk6)
      · intro y hy
        rcases List.mem_append.1 hy with hy | hy
        · obtain ⟨h1, h2, h3⟩ := hfr y hy
          refine ⟨h1, h2.mono (by omega), fun bb oo n cc hv hm => ?_⟩
          rcases hF' bb hm with hm | hm
          · exact h3 bb oo n cc hv hm
          · have := h2 bb oo n cc hv
            omega
        · simp at hy
          subst hy
          refine ⟨Fr.mono hfx (by omega), Lt.mono hlx (by omega), fun bb oo n cc hv hm => ?_⟩
          rcases hF' bb hm with hm | hm
          · exact hxoff bb oo n cc hv hm
          · have := hlx bb oo n cc hv
            omega
  · intro _
    simp only [xIf_false, List.getD_cons_zero, List.getD_cons_succ]
    refine xE_cut0 (m := 6) EL_24 encF_len encF_cells (hf.kept0 hk1) (by omega) (by omega) fun u w2 F2 ho2 hF2 hk2 => ?_
    have etk : vs.take i = vs.take 6 := by
      rcases Nat.lt_or_ge i vs.length with h1 | h1
      · have : i = 6 := by omega
        rw [this]
      · rw [List.take_of_length_le (by omega), List.take_of_length_le (by omega)]
    rw [etk] at hrow
    refine ⟨u, o, ro, rfl, ho2.slT encF_len (by omega), ?_, hrow.kept0 hk2, hk1.then hk2 (by simp)⟩
    have : Own w1 32 3 o ro.length (ro.flatMap encV) F := by rw [hro]; exact ho
    exact (this.slT encV_len (by omega)).kept0 hk2
end Go.Proofs.YtclojjiiiejfpaaDoor
