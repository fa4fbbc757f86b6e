import Derived.Test.YtolincflccddhaaXMarks
namespace Go.Proofs.Ytolincflccddhaa
open Go Go.X

theorem plays_ok {w : World} {a first : Int} {l : List Ask} {ask : List Int} {v u : Value} (ha : -9223372036854775808 ≤ a ∧ a ≤ 9223372036854775807) (hsl : SlT w encA v l) (hsk : SlT w encI u ask) :
    Gives Try.prog 5 #[.int .i64 a, .int .i64 first, v, u] w fun r w' => r = .bool true ∧ Kept [] w w' := by
  refine C_IndexPlays ?_
  unfold S_IndexPlays
  refine xE_call CF_8 (new_ok ha.1 ha.2) ?_
  rintro _ w1 ⟨rfl, hx0, hk1, hz1⟩
  simp only [xR_pnil PT_22, xIf_false, Option.isNone_some]
  generalize hb : w.heap.size = B at *
  generalize (max a 1).toNat = ea at *
  obtain ⟨la, lc, rfl, hlc, hlr⟩ := hsl
  obtain ⟨ka, kc, rfl, hkc, hkr⟩ := hsk
  refine xE_call CF_13 (within_ok (by omega) (by omega) (by omega)) ?_
  rintro _ _ ⟨rfl, rfl⟩
  have hfb := within_bd (n := first) (lo := 0) (hi := 4611686018427387904) (by omega)
  generalize within first 0 4611686018427387904 = n0 at *
  refine xLoop_of (fun vs w' => ∃ (hs : List Hd) (wv : Value) (F Fx : List Nat) (i : Nat) (next : Int), vs = [wv, .int .i64 next, .int .i64 i] ∧ i ≤ 60 ∧ i ≤ l.length ∧ hs.length ≤ i ∧ 0 ≤ next ∧ next ≤ 4611686018427387904 + 11 * i ∧ Chain hs next ∧
      Own w' 26 5 wv hs.length (hs.flatMap encH) F ∧ Ix w' B ea hs Fx ∧ (∀ g ∈ F, B ≤ g ∧ g ∉ Fx) ∧ (∀ g ∈ Fx, B ≤ g) ∧ Kept [] w w' ∧ B < w'.heap.size)
    (fun vs _ => match vs with | [_, _, .int _ k] => 60 - k.toNat | _ => 0) ⟨[], .slice none 0 0, [], [B], 0, n0, rfl, by omega, by omega, by simp, by omega, by omega, Chain.nil _, own_nil _ _ _, hx0, by simp, by simp, hk1, by omega⟩ ?_
  rintro _ _ w2 ⟨hs, wv, F, Fx, i, next, rfl, hi60, hil, hsl, hn0, hn8, hch, hown, hix, hF, hFx, hk2, hBw⟩
  have hwsl : SlT w2 encH wv hs := hown.slT encH_len (by omega)
  refine xJoin_of (fun vs w' => vs = [.bool (decide (i < l.length ∧ i < 60))] ∧ w2 = w') ?_ ?_
  · simp only [xP_lss, List.getD_cons_zero, List.getD_cons_succ, LEN_34, xIf_dec]
    refine ⟨fun h => ⟨?_, trivial⟩, fun h => ⟨?_, trivial⟩⟩
    · have := Int.ofNat_lt.1 h
      simp [this]
      omega
    · simp
      omega
  rintro _ _ _ ⟨rfl, rfl⟩
  simp only [xP_add, List.getD_cons_zero, List.getD_cons_succ, LEN_28, xIf_dec]
  refine ⟨fun hlt => ?_, fun hge => ?_⟩
  · obtain ⟨lb, lo, rfl, hat⟩ := hlr.resolve_left (by intro h; rw [h] at hlt; simp at hlt)
    have hel := (at_elem encA_len hat (List.getElem?_eq_getElem hlt.1)).kept hk2 (by simp)
    generalize l[i]'hlt.1 = x at *
    refine (xP_IAn SL_34 SZ_37 hlt.1).2 ?_
    refine (ldN (l := encA x) AGG_37 hel).2 ?_
    refine xE_alloc Z_37 fun w3 hb3 hk3 hz3 => ?_
    refine xE_storeN (l1 := []) (l2 := [.int .i64 0, .int .i64 0, .int .i64 0, .int .i64 0]) (l3 := []) SZ_37 hb3 rfl rfl rfl (ask_cells x) fun w4 hb4 hk4 hz4 => ?_
    have hv4 : Blk w4 w2.heap.size 37 (encA x) := by simpa [Value.cells] using hb4
    have hk24 : Kept [] w2 w4 := hk3.trans hk4 (by simp) (by simp)
    have hFlt := hown.lt
    have hFxlt := hix.lt
    generalize hV : w2.heap.size = V at *
    have hVF : V ∉ F := fun h => by have := hFlt V h; omega
    have hVFx : V ∉ Fx := fun h => by have := hFxlt V h; omega
    have hix4 := hix.kept hk24 (by simp)
    have hown4 := hown.kept hk24 (by simp)
    have z24 := hk24.size
    clear hb3 hb4 hk3 hk4
    refine xJoin_of (fun vs w' => ∃ (hs' : List Hd) (wv' : Value) (F' Fx' : List Nat) (next' : Int), vs = [wv', .int .i64 next'] ∧ hs'.length ≤ i + 1 ∧ 0 ≤ next' ∧ next' ≤ 4611686018427387904 + 11 * ((i : Int) + 1) ∧ Chain hs' next' ∧
      Own w' 26 5 wv' hs'.length (hs'.flatMap encH) F' ∧ Ix w' B ea hs' Fx' ∧ (∀ g ∈ F', B ≤ g ∧ g ∉ Fx') ∧ (∀ g ∈ Fx', B ≤ g) ∧ Kept [] w w' ∧ B < w'.heap.size) ?_ ?_
    · try simp only [Nat.zero_add, Nat.add_zero, FA_37_0, FA_37_1, FA_37_2, FA_37_3]
      refine (ld1 ONE_3 (hv4.cell (o := 0))).2 ?_
      simp only [xR_eql, xIf_dec]
      refine ⟨fun _ => ?_, fun _ => ?_⟩
      · -- a head is added
        have wg : ∀ w', w' = w' → Gives Try.prog 13 #[.int .i64 x.gap, .int .i64 0, .int .i64 3] w' fun v w'' => v = .int .i64 (within x.gap 0 3) ∧ w' = w'' := fun w' _ => within_ok (by omega) (by omega) (by omega)
        have wc : ∀ w', w' = w' → Gives Try.prog 13 #[.int .i64 x.count, .int .i64 1, .int .i64 8] w' fun v w'' => v = .int .i64 (within x.count 1 8) ∧ w' = w'' := fun w' _ => within_ok (by omega) (by omega) (by omega)
        have wt : ∀ w', w' = w' → Gives Try.prog 13 #[.int .i64 x.time, .int .i64 0, .int .i64 50] w' fun v w'' => v = .int .i64 (within x.time 0 50) ∧ w' = w'' := fun w' _ => within_ok (by omega) (by omega) (by omega)
        have hg' := within_bd (n := x.gap) (lo := 0) (hi := 3) (by omega)
        have hc' := within_bd (n := x.count) (lo := 1) (hi := 8) (by omega)
        generalize within x.gap 0 3 = gp at *
        generalize within x.count 1 8 = c at *
        generalize within x.time 0 50 = t at *
        generalize hH : (⟨next + gp, c, t, i, 0⟩ : Hd) = H
        have hHb : H.base = next + gp := by subst hH; rfl
        have hHc : H.count = c := by subst hH; rfl
        have c1 : ∀ w', Kept [] w4 w' → w'.cell? ⟨V, 0 + 1, none⟩ = some (.int .i64 x.gap) := fun w' hk => at_cell ((hv4.kept hk (by simp)).at) (j := 1) rfl
        have c2 : ∀ w', Kept [] w4 w' → w'.cell? ⟨V, 0 + 2, none⟩ = some (.int .i64 x.count) := fun w' hk => at_cell ((hv4.kept hk (by simp)).at) (j := 2) rfl
        have c3 : ∀ w', Kept [] w4 w' → w'.cell? ⟨V, 0 + 3, none⟩ = some (.int .i64 x.time) := fun w' hk => at_cell ((hv4.kept hk (by simp)).at) (j := 3) rfl
        simp only [Nat.zero_add] at c1 c2 c3
        have kd : Kept [] w4 w4.drew := (Kept.refl _ _).drew
        refine xJoin_of (fun vs w' => ∃ g, vs = [.pointer (some ⟨g, 0, none⟩)] ∧ Blk w' g 26 (encH H) ∧ w4.heap.size ≤ g ∧ Kept [] w4 w') ?_ ?_
        · have st : ∀ (w5 w6 : World) (g : Nat) (vs : List Value), Blk w5 g 26 [.int .i64 0, .int .i64 0, .int .i64 0, .int .i64 0, .int .i64 0] → w4.heap.size ≤ g → Kept [] w4 w5 → Blk w6 g 26 ([] ++ (Value.agg (encH H).toArray).cells.toList ++ []) → Kept [g] w5 w6 →
              vs = [.pointer (some ⟨g, 0, none⟩)] → ∃ g, vs = [.pointer (some ⟨g, 0, none⟩)] ∧ Blk w6 g 26 (encH H) ∧ w4.heap.size ≤ g ∧ Kept [] w4 w6 := by
            intro w5 w6 g vs h3 hg hk h4 hk4 hv
            exact ⟨g, hv, by simpa [Value.cells] using h4, hg, hk.then hk4 (by simp [hg])⟩
          skip
          refine (ld1 ONE_3 (c1 _ kd)).2 ?_
          skip
          refine (ld1 ONE_3 (c2 _ kd)).2 ?_
          skip
          refine (ld1 ONE_3 (c3 _ kd)).2 ?_
          refine ⟨?_, ?_⟩
          · refine xE_call CF_13 (wg _ rfl) ?_
            rintro _ _ ⟨rfl, rfl⟩
            refine (still1 ONE_3 (c3 _ kd)).2 ?_
            refine (still1 ONE_3 (c2 _ kd)).2 ?_
            try simp only [xP_add]
            rw [wrap64 (by omega) (by omega)]
            refine ⟨?_, ?_⟩
            · refine xE_call CF_13 (wc _ rfl) ?_
              rintro _ _ ⟨rfl, rfl⟩
              refine (still1 ONE_3 (c3 _ kd)).2 ?_
              refine ⟨?_, ?_⟩
              · refine xE_call CF_13 (wt _ rfl) ?_
                rintro _ _ ⟨rfl, rfl⟩
                refine (xP_build (cells := (encH ⟨next + gp, c, t, i, 0⟩).toArray) (by kernel_rfl)).2 ?_
                rw [hH]
                refine xE_alloc Z_26 fun w5 hb5 hk5 hz5 => ?_
                refine xE_storeN (l1 := []) (l2 := [.int .i64 0, .int .i64 0, .int .i64 0, .int .i64 0, .int .i64 0]) (l3 := []) SZ_26 hb5 rfl rfl rfl (head_cells H) fun w6 hb6 hk6 hz6 => ?_
                exact st _ _ _ _ hb5 (Nat.le_refl _) hk5.of_drew hb6 hk6 rfl
              · refine xE_alloc Z_26 fun w5 hb5 hk5 hz5 => ?_
                refine (still1 ONE_3 (c3 _ hk5.of_drew)).2 ?_
                refine xE_call CF_13 (wt _ rfl) ?_
                rintro _ _ ⟨rfl, rfl⟩
                refine (xP_build (cells := (encH ⟨next + gp, c, t, i, 0⟩).toArray) (by kernel_rfl)).2 ?_
                rw [hH]
                refine xE_storeN (l1 := []) (l2 := [.int .i64 0, .int .i64 0, .int .i64 0, .int .i64 0, .int .i64 0]) (l3 := []) SZ_26 hb5 rfl rfl rfl (head_cells H) fun w6 hb6 hk6 hz6 => ?_
                exact st _ _ _ _ hb5 (Nat.le_refl _) hk5.of_drew hb6 hk6 rfl
            · refine xE_alloc Z_26 fun w5 hb5 hk5 hz5 => ?_
              refine (still1 ONE_3 (c3 _ hk5.of_drew)).2 ?_
              refine (still1 ONE_3 (c2 _ hk5.of_drew)).2 ?_
              refine xE_call CF_13 (wc _ rfl) ?_
              rintro _ _ ⟨rfl, rfl⟩
              refine (still1 ONE_3 (c3 _ hk5.of_drew)).2 ?_
              refine xE_call CF_13 (wt _ rfl) ?_
              rintro _ _ ⟨rfl, rfl⟩
              refine (xP_build (cells := (encH ⟨next + gp, c, t, i, 0⟩).toArray) (by kernel_rfl)).2 ?_
              rw [hH]
              refine xE_storeN (l1 := []) (l2 := [.int .i64 0, .int .i64 0, .int .i64 0, .int .i64 0, .int .i64 0]) (l3 := []) SZ_26 hb5 rfl rfl rfl (head_cells H) fun w6 hb6 hk6 hz6 => ?_
              exact st _ _ _ _ hb5 (Nat.le_refl _) hk5.of_drew hb6 hk6 rfl
          · refine xE_alloc Z_26 fun w5 hb5 hk5 hz5 => ?_
            refine (still1 ONE_3 (c3 _ hk5.of_drew)).2 ?_
            refine (still1 ONE_3 (c2 _ hk5.of_drew)).2 ?_
            refine (still1 ONE_3 (c1 _ hk5.of_drew)).2 ?_
            refine xE_call CF_13 (wg _ rfl) ?_
            rintro _ _ ⟨rfl, rfl⟩
            refine (still1 ONE_3 (c3 _ hk5.of_drew)).2 ?_
            refine (still1 ONE_3 (c2 _ hk5.of_drew)).2 ?_
            try simp only [xP_add]
            rw [wrap64 (by omega) (by omega)]
            refine xE_call CF_13 (wc _ rfl) ?_
            rintro _ _ ⟨rfl, rfl⟩
            refine (still1 ONE_3 (c3 _ hk5.of_drew)).2 ?_
            refine xE_call CF_13 (wt _ rfl) ?_
            rintro _ _ ⟨rfl, rfl⟩
            refine (xP_build (cells := (encH ⟨next + gp, c, t, i, 0⟩).toArray) (by kernel_rfl)).2 ?_
            rw [hH]
            refine xE_storeN (l1 := []) (l2 := [.int .i64 0, .int .i64 0, .int .i64 0, .int .i64 0, .int .i64 0]) (l3 := []) SZ_26 hb5 rfl rfl rfl (head_cells H) fun w6 hb6 hk6 hz6 => ?_
            exact st _ _ _ _ hb5 (Nat.le_refl _) hk5.of_drew hb6 hk6 rfl
        rintro _ _ w5 ⟨g, rfl, hbg, hgw, hk5⟩
        have hix5 := hix4.kept hk5 (by simp)
        have hown5 := hown4.kept hk5 (by simp)
        have z5 := hk5.size
        try simp only [Nat.zero_add, Nat.add_zero, List.getD_cons_zero, FA_26_0, FA_26_1]
        refine (ld1 ONE_3 (hbg.cell (o := 0))).2 ?_
        try simp only [xP_nil, xP_pick, xP_func, xP_not, xP_add, xP_sub, xP_mul, xP_lss, xP_leq, xP_gtr, xP_geq, xP_max2, xP_min2, xR_eql, xR_neq, Nat.zero_add, Nat.add_zero, Nat.reduceAdd, List.getD_cons_zero, List.getD_cons_succ, xIf_true, xIf_false, FA_26_0, FA_26_1, FA_26_2, FA_37_0, FA_37_1, FA_37_2, FA_37_3, FA_44_0, FA_44_1, FA_44_2, LEN_28, LEN_34, LEN_35]
        refine (ld1 ONE_3 (hbg.cell (o := 1))).2 ?_
        try simp only [xP_add]
        rw [hHb, hHc, wrap64 (by omega) (by omega)]
        refine (ldN (l := encH H) AGG_26 hbg.at).2 ?_
        refine xE_call CF_9 (add_ok (h := H) hix5 (by omega)) ?_
        rintro _ w6 ⟨rfl, F6, hix6, hk6, hf6⟩
        have z6 := hk6.size
        have hbg6 := hbg.kept hk6 (fun h => by have := hFxlt g h; omega)
        refine (ldN (l := encH H) AGG_26 hbg6.at).2 ?_
        refine xE_buildSlice EL_35 [.agg (encH H).toArray] rfl rfl (by simp [encH, Value.cells]) (by omega) (by omega) fun w7 hb7 hk7 hz7 => ?_
        have z7 := hk7.size
        have hown7 := (hown5.kept hk6 (fun g hg => (hF g hg).2)).kept hk7 (by simp)
        refine xE_append EL_35 hown7 (news := encH H) (m := 1) (by have := hb7.at; simpa [Value.cells] using this) rfl (head_cells H) (by omega) (by unfold maxLen; omega) (by omega) fun v' w8 F8 ho8 hk8 hf8 hone => ?_
        have z8 := hk8.size
        have hf6' : ∀ g ∈ F6, B ≤ g ∧ g ∉ F := fun g hg => (hf6 g hg).elim (fun h => ⟨hFx g h, fun hgF => (hF g hgF).2 h⟩) (fun h => ⟨by omega, fun hgF => by have := hFlt g hgF; omega⟩)
        have hF6lt := hix6.lt
        refine ⟨hs ++ [H], v', F8, F6, next + gp + c, by simp, by simp; omega, by omega, by omega, ?_, ?_, (hix6.kept hk7 (by simp)).kept hk8 (fun g hg => (hf6' g hg).2), ?_, fun g hg => (hf6' g hg).1, ?_, by omega⟩
        · have := hch.snoc (x := H) (by omega) (by omega) (by omega)
          rwa [hHb, hHc] at this
        · simpa using ho8
        · intro g hg
          rcases hf8 g hg with h | h
          · exact ⟨(hF g h).1, fun h5 => (hf6' g h5).2 h⟩
          · exact ⟨by omega, fun h5 => by have := hF6lt g h5; omega⟩
        · exact ((((hk2.then hk24 (by simp)).then hk5 (by simp)).then hk6 (fun g hg => .inr (by have := hFx g hg; omega))).then hk7 (by simp)).then hk8 (fun g hg => .inr (by have := (hF g hg).1; omega))
      · try simp only [xP_nil, xP_pick, xP_func, xP_not, xP_add, xP_sub, xP_mul, xP_lss, xP_leq, xP_gtr, xP_geq, xP_max2, xP_min2, xR_eql, xR_neq, Nat.zero_add, Nat.add_zero, Nat.reduceAdd, List.getD_cons_zero, List.getD_cons_succ, xIf_true, xIf_false, FA_26_0, FA_26_1, FA_26_2, FA_37_0, FA_37_1, FA_37_2, FA_37_3, FA_44_0, FA_44_1, FA_44_2, LEN_28, LEN_34, LEN_35, xIf_dec]
        refine ⟨fun _ => ?_, fun _ => ?_⟩
        · -- heads are dropped
          refine (ld1 ONE_3 (hv4.cell (o := 2))).2 ?_
          refine xE_call CF_15 (drop_ok (n := x.count) hix4 (by omega)) ?_
          rintro _ w5 ⟨rfl, F5, hix5, hk5, hf5⟩
          have z5 := hk5.size
          have hv5 := hv4.kept hk5 hVFx
          have hown5 := hown4.kept hk5 (fun g hg => (hF g hg).2)
          obtain ⟨wa, wc, rfl, hwc, _⟩ := hwsl
          try simp only [LEN_35]
          refine (ld1 ONE_3 (hv5.cell (o := 2))).2 ?_
          simp only [xP_max2, xP_min2]
          obtain ⟨k, hk, hkl, hdrop⟩ : ∃ k : Nat, min (hs.length : Int) (max x.count 0) = k ∧ k ≤ hs.length ∧ hs.drop x.count.toNat = hs.drop k := by
            refine ⟨min hs.length x.count.toNat, by omega, by omega, ?_⟩
            by_cases h : x.count.toNat ≤ hs.length
            · rw [Nat.min_eq_right h]
            · rw [Nat.min_eq_left (by omega), List.drop_eq_nil_of_le (by omega), List.drop_eq_nil_of_le (by omega)]
          rw [hdrop] at hix5
          rw [hk]
          refine (xP_from SL_35 SZ_26 (by omega) (by omega)).2 ?_
          rw [Int.toNat_natCast]
          have ho := hown5.from (k := k) rfl hkl
          rw [flat_drop encH_len] at ho
          have hfF : ∀ g ∈ F5, B ≤ g ∧ g ∉ F := fun g hg => (hf5 g hg).elim (fun h => ⟨hFx g h, fun hgF => (hF g hgF).2 h⟩) (fun h => ⟨by omega, fun hgF => by have := hFlt g hgF; omega⟩)
          refine ⟨hs.drop k, _, F, F5, next, rfl, by rw [List.length_drop]; omega, by omega, by omega, hch.drop k, by rw [List.length_drop]; exact ho, hix5, fun g hg => ⟨(hF g hg).1, fun h5 => (hfF g h5).2 hg⟩, fun g hg => (hfF g hg).1,
            (hk2.then hk24 (by simp)).then hk5 (fun g hg => .inr (by have := hFx g hg; omega)), by omega⟩
        · exact ⟨hs, wv, F, Fx, next, rfl, by omega, by omega, by omega, hch, hown4, hix4, hF, hFx, hk2.then hk24 (by simp), by omega⟩
    clear hown4 hix4 hv4 hwsl
    rintro _ _ w5 ⟨hs', wv', F', Fx', next', rfl, hl', hn', hn8', hch', hown', hix', hF', hFx', hk5, hB5⟩
    have hwsl' : SlT w5 encH wv' hs' := hown'.slT encH_len (by omega)
    have hs1 : Sorted hs' := hch'.1
    have hs2 : Ranged hs' := hch'.ranged (by omega)
    have hwsl0 := hwsl'
    obtain ⟨wa, wc, rfl, hwc, hwr⟩ := hwsl0
    try simp only [xP_sub, xP_max2, List.getD_cons_zero, List.getD_cons_succ, LEN_35]
    have hzH : (Value.agg #[.int .i64 0, .int .i64 0, .int .i64 0, .int .i64 0, .int .i64 0]) = vH zH := rfl
    refine xJoin_of (fun vs w' => vs = [.bool false] ∧ Kept [] w5 w') ?_ ?_
    · refine xE_call CF_16 (len_ok hix') ?_
      rintro _ w6 ⟨rfl, hk6⟩
      simp only [xR_neq, xIf_false, ne_eq, not_true_eq_false, decide_false]
      refine xE_call CF_14 (head_ok (i := -1) (hix'.kept hk6 (by simp))) ?_
      rintro _ w7 ⟨rfl, hk7⟩
      rw [if_neg (by omega)]
      refine (xP_build (cells := (encH zH).toArray) (by kernel_rfl)).2 ?_
      refine neqH.2 ?_
      simp only [xIf_false, decide_true, Bool.not_true]
      refine xE_call CF_14 (head_ok (i := hs'.length) ((hix'.kept hk6 (by simp)).kept hk7 (by simp))) ?_
      rintro _ w8 ⟨rfl, hk8⟩
      rw [if_neg (by omega)]
      refine (xP_build (cells := (encH zH).toArray) (by kernel_rfl)).2 ?_
      refine neqH.2 ?_
      simp only [decide_true, Bool.not_true]
      exact ⟨trivial, (hk6.then hk7 (by simp)).then hk8 (by simp)⟩
    rintro _ _ w6 ⟨rfl, hk6⟩
    try simp only [List.getD_cons_zero, xIf_false]
    refine xLoop_of (fun vs w' => ∃ k : Nat, vs = [.int .i64 k] ∧ k ≤ ask.length ∧ k ≤ 4 ∧ Kept [] w5 w') (fun vs _ => match vs with | [.int _ k] => 4 - k.toNat | _ => 0) ⟨0, rfl, by omega, by omega, hk6⟩ ?_
    rintro _ _ w7 ⟨k, rfl, hka, hk20, hk7⟩
    refine xJoin_of (fun vs w' => vs = [.bool (decide (k < ask.length ∧ k < 4))] ∧ w7 = w') ?_ ?_
    · simp only [xP_lss, List.getD_cons_zero, xIf_dec]
      refine ⟨fun h => ⟨?_, trivial⟩, fun h => ⟨?_, trivial⟩⟩
      · have := Int.ofNat_lt.1 h
        simp [this]
        omega
      · simp
        omega
    rintro _ _ _ ⟨rfl, rfl⟩
    simp only [xP_add, List.getD_cons_zero, xIf_dec]
    refine ⟨fun hlt2 => ?_, fun hge2 => ?_⟩
    · obtain ⟨kb, ko, rfl, hat2⟩ := hkr.resolve_left (by intro h; rw [h] at hlt2; simp at hlt2)
      have hel2 := at_one ((at_elem encI_len hat2 (List.getElem?_eq_getElem hlt2.1)).kept (hk5.then hk7 (by simp)) (by simp))
      generalize ask[k]'hlt2.1 = q at *
      rw [wrap64 (by omega) (by omega)]
      refine (xP_IAn SL_28 SZ_3 hlt2.1).2 ?_
      refine (ld1 ONE_3 hel2).2 ?_
      refine xE_call CF_13 (within_ok (by omega) (by omega) (by omega)) ?_
      rintro _ _ ⟨rfl, rfl⟩
      have hob := within_bd (n := q) (lo := 0) (hi := 25) (by omega)
      generalize within q 0 25 = qo at *
      try simp only [xP_add]
      rw [wrap64 (by omega) (by omega)]
      refine (xP_IAn SL_28 SZ_3 hlt2.1).2 ?_
      refine (ld1 ONE_3 hel2).2 ?_
      refine xE_call CF_13 (within_ok (by omega) (by omega) (by omega)) ?_
      rintro _ _ ⟨rfl, rfl⟩
      generalize within q 0 51 = t at *
      generalize hO : max (next' - 20) 0 + qo = o at *
      refine xJoin_of (fun vs w' => vs = [.bool false] ∧ Kept [] w7 w') ?_ ?_
      · have hix7 := hix'.kept hk7 (by simp)
        have hsl7 := hwsl'.kept0 hk7
        refine xE_call CF_10 (seek_ok hix7 (by omega) hs1 hs2 (fun _ => by omega)) ?_
        rintro _ w8 ⟨rfl, hk8⟩
        refine xE_call CF_17 (rseek_ok (hsl7.kept0 hk8) (by omega) (fun h hm => by have := hs2 h hm; exact wrap64 (by omega) (by omega))) ?_
        rintro _ w9 ⟨rfl, hk9⟩
        simp only [xR_neq, xIf_false, ne_eq, not_true_eq_false, decide_false]
        refine xE_call CF_11 (when_ok ((hix7.kept hk8 (by simp)).kept hk9 (by simp)) (by omega)) ?_
        rintro _ w10 ⟨rfl, hk10⟩
        refine xE_call CF_18 (rwhen_ok (((hsl7.kept0 hk8).kept0 hk9).kept0 hk10) (by omega)) ?_
        rintro _ w11 ⟨rfl, hk11⟩
        simp only [xR_neq, ne_eq, not_true_eq_false, decide_false]
        exact ⟨trivial, ((hk8.then hk9 (by simp)).then hk10 (by simp)).then hk11 (by simp)⟩
      rintro _ _ w8 ⟨rfl, hk8⟩
      try simp only [List.getD_cons_zero, xIf_false]
      rw [wrap64 (by omega) (by omega)]
      exact ⟨⟨k + 1, rfl, by omega, by omega, hk7.then hk8 (by simp)⟩, by omega⟩
    · rw [wrap64 (by omega) (by omega)]
      have z7 := hk7.size
      exact ⟨⟨hs', _, F', Fx', i + 1, next', rfl, by omega, by omega, hl', hn', by omega, hch', hown'.kept hk7 (by simp), hix'.kept hk7 (by simp), hF', hFx', hk5.then hk7 (by simp), by omega⟩, by omega⟩
  · -- all heads, one by one
    have hs1 : Sorted hs := hch.1
    have hs2 : Ranged hs := hch.ranged (by omega)
    have hwsl0 := hwsl
    obtain ⟨wa, wc, rfl, hwc, hwr⟩ := hwsl0
    try simp only [LEN_35]
    refine xLoop_of (fun vs w' => ∃ k : Nat, vs = [.int .i64 k] ∧ k ≤ hs.length ∧ Kept [] w2 w') (fun vs _ => match vs with | [.int _ k] => hs.length - k.toNat | _ => 0) ⟨0, rfl, by omega, Kept.refl _ _⟩ ?_
    rintro _ _ w3 ⟨k, rfl, hkl, hk3⟩
    simp only [xP_add, xP_lss, List.getD_cons_zero, xIf_dec]
    have hix3 := hix.kept hk3 (by simp)
    refine ⟨fun hlt => ?_, fun hge' => ?_⟩
    · have hlt' : k < hs.length := by omega
      obtain ⟨wb, wo, rfl, hat⟩ := hwr.resolve_left (by intro h; rw [h] at hlt'; simp at hlt')
      have hel := at_drew (at_elem encH_len (hat.kept hk3 (by simp)) (List.getElem?_eq_getElem hlt'))
      refine (xP_IAn SL_35 SZ_26 hlt').2 ?_
      refine (ldN (l := encH hs[k]) AGG_26 hel).2 ?_
      have kd : Kept [] w3 w3.drew := (Kept.refl _ _).drew
      refine xE_call CF_14 (head_ok (i := k) (hix3.kept kd (by simp))) ?_
      rintro _ w4 ⟨rfl, hk4⟩
      refine (stillN (l := encH hs[k]) AGG_26 (hel.kept hk4 (by simp))).2 ?_
      rw [if_pos (by omega)]
      have hg : hs.getD (Int.toNat (k : Int)) zH = hs[k] := by simp [List.getD, hlt']
      rw [hg]
      refine neqH.2 ?_
      simp only [xIf_false, decide_true, Bool.not_true]
      rw [wrap64 (by omega) (by omega)]
      exact ⟨⟨k + 1, rfl, hlt', hk3.drew.then hk4 (by simp)⟩, by omega⟩
    · have hsl3 := hwsl.kept0 hk3
      refine xE_call CF_10 (seek_ok hix3 (by omega) hs1 hs2 (fun _ => by omega)) ?_
      rintro _ w4 ⟨rfl, hk4⟩
      refine xE_call CF_17 (rseek_ok (hsl3.kept0 hk4) (by omega) (fun h hm => by have := hs2 h hm; exact wrap64 (by omega) (by omega))) ?_
      rintro _ w5 ⟨rfl, hk5⟩
      simp only [xR_eql, xIf_true, decide_true]
      refine xE_call CF_10 (seek_ok (o := 9223372036854775807) ((hix3.kept hk4 (by simp)).kept hk5 (by simp)) (by omega) hs1 hs2 (fun _ => by omega)) ?_
      rintro _ w6 ⟨rfl, hk6⟩
      have e1 : hs.findIdx (has 9223372036854775807) = hs.length := List.findIdx_eq_length_of_false (fun h hm => by
        have := hch.2 h hm
        simp [has]; omega)
      rw [e1]
      simp only [xR_eql, xIf_true, decide_true]
      refine xE_call CF_3 runs_ok ?_
      rintro _ w7 ⟨rfl, hk7⟩
      exact ⟨rfl, (((((hk2.then hk3 (by simp)).then hk4 (by simp)).then hk5 (by simp))).then hk6 (by simp)).then hk7 (by simp)⟩
end Go.Proofs.Ytolincflccddhaa
