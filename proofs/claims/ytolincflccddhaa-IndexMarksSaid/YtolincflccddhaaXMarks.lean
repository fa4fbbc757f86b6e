import Derived.Test.YtolincflccddhaaXDrops
namespace Go.Proofs.Ytolincflccddhaa
open Go Go.X Go.RowKit Go.ChangeShapes Go.WideShapes

/-- Heads one behind the other, each begins where the one ahead ends; the last one ends at e. -/
def Chain (hs : List Hd) (e : Int) : Prop := Sorted hs ∧ (∀ h ∈ hs, 0 ≤ h.base ∧ 1 ≤ h.count ∧ h.base + h.count ≤ e)
theorem Chain.nil (e : Int) : Chain [] e := ⟨fun i j hi hj _ h1 => by simp at h1, fun h hm => by simp at hm⟩
theorem Chain.snoc {hs : List Hd} {e : Int} (h : Chain hs e) {x : Hd} (h0 : 0 ≤ x.base) (h1 : e ≤ x.base) (h2 : 1 ≤ x.count) : Chain (hs ++ [x]) (x.base + x.count) := by
  refine ⟨fun i j hi hj hij a b => ?_, fun y hy => ?_⟩
  · rcases Nat.lt_or_ge j hs.length with hlt | hge
    · rw [List.getElem?_append_left hlt] at b
      rw [List.getElem?_append_left (by omega)] at a
      exact h.1 i j hi hj hij a b
    · have hjl : j = hs.length := by
        have := (List.getElem?_eq_some_iff.1 b).1
        simp at this
        omega
      subst hjl
      simp at b
      subst b
      rw [List.getElem?_append_left hij] at a
      have := (h.2 hi (List.mem_of_getElem? a)).2.2
      omega
  · rcases List.mem_append.1 hy with hy | hy
    · have := h.2 y hy
      omega
    · simp at hy; subst hy; omega
theorem Chain.drop {hs : List Hd} {e : Int} (h : Chain hs e) (k : Nat) : Chain (hs.drop k) e := ⟨sorted_drop h.1 k, fun x hx => h.2 x (List.mem_of_mem_drop hx)⟩
theorem Chain.ranged {hs : List Hd} {e : Int} (h : Chain hs e) (he : e ≤ 9223372036854775807) : Ranged hs := fun x hx => by
  have := h.2 x hx; omega

theorem open_intsL {H : Type} {enc : TypeId × Value → H} {w : World} {base : Nat} {v : Value} {d : DataW H} {p : List MemPlace} (hv : Value.okWide Try.prog w .any base 28 v)
    (h : DataW.Trod enc Try.prog w 0 (fun _ => true) true 28 v d p) : ∃ l : List Int, SlT w encI v l :=
  open_intsX Try.underlying28 Try.underlying3 (by kernel_rfl) (okWide_slice Try.underlying28 hv) h

theorem before {hs : List Hd} {o : Int} {S : Nat} (h0 : 0 < S) (hS : hs.findIdx (has o) = S) (hl : S ≤ hs.length) :
    hs.getD ((S : Int) - 1).toNat zH ∈ hs ∧ (hs.getD ((S : Int) - 1).toNat zH).base + (hs.getD ((S : Int) - 1).toNat zH).count ≤ o := by
  have e : ((S : Int) - 1).toNat = S - 1 := by omega
  have hlt : S - 1 < hs.length := by omega
  rw [e]
  have hg : hs.getD (S - 1) zH = hs[S - 1] := by simp [List.getD, hlt]
  rw [hg]
  refine ⟨List.getElem_mem _, ?_⟩
  have := List.not_of_lt_findIdx (p := has o) (xs := hs) (i := S - 1) (by omega)
  simp [has] at this
  omega

theorem marks_ok {w : World} {a b : Int} {l : List Ask} {ask : List Int} {v u : Value} (ha : -9223372036854775808 ≤ a ∧ a ≤ 9223372036854775807) (hbb : -9223372036854775808 ≤ b ∧ b ≤ 9223372036854775807) (hsl : SlT w encA v l) (hsk : SlT w encI u ask) :
    Gives Try.prog 6 #[.int .i64 a, .int .i64 b, v, u] w fun r w' => r = .bool true ∧ Kept [] w w' := by
  refine C_IndexMarks ?_
  unfold S_IndexMarks
  refine xE_call CF_8 (new_ok ha.1 ha.2) ?_
  rintro _ w1 ⟨rfl, hx0, hk1, hz1⟩
  refine xE_call CF_8 (new_ok hbb.1 hbb.2) ?_
  rintro _ w1' ⟨rfl, hy0, hk1', hz1'⟩
  generalize hb : w.heap.size = B at *
  rw [hz1] at hy0
  rw [hz1]
  generalize (max a 1).toNat = ea at *
  generalize (max b 1).toNat = eb at *
  obtain ⟨la, lc, rfl, hlc, hlr⟩ := hsl
  obtain ⟨ka, kc, rfl, hkc, hkr⟩ := hsk
  have hx0' := hx0.kept hk1' (by simp)
  refine xJoin_of (fun vs w' => vs = [.bool false] ∧ w1' = w') ?_ ?_
  · simp only [xR_pnil PT_22, xIf_false, Option.isNone_some]
    exact ⟨trivial, trivial⟩
  rintro _ _ _ ⟨rfl, rfl⟩
  try simp only [List.getD_cons_zero, xIf_false, LEN_28, LEN_34]
  refine xLoop_of (fun vs w' => ∃ (hs : List Hd) (Fx Fy : List Nat) (i : Nat) (next : Int), vs = [.int .i64 next, .int .i64 i] ∧ i ≤ 60 ∧ i ≤ l.length ∧ hs.length ≤ i ∧ 0 ≤ next ∧ next ≤ 8 * i ∧ Chain hs next ∧
      Ix w' B ea hs Fx ∧ Ix w' (B + 1) eb hs Fy ∧ (∀ g ∈ Fx, B ≤ g ∧ g ∉ Fy) ∧ (∀ g ∈ Fy, B ≤ g) ∧ Kept [] w w' ∧ B < w'.heap.size)
    (fun vs _ => match vs with | [_, .int _ k] => 60 - k.toNat | _ => 0) ⟨[], [B], [B + 1], 0, 0, rfl, by omega, by omega, by simp, by omega, by omega, Chain.nil _, hx0', hy0, by simp, by simp, hk1.then hk1' (by simp), by omega⟩ ?_
  rintro _ _ w2 ⟨hs, Fx, Fy, i, next, rfl, hi60, hil, hsl, hn0, hn8, hch, hix, hiy, hFx, hFy, hk2, hBw⟩
  refine xJoin_of (fun vs w' => vs = [.bool (decide (i < l.length ∧ i < 60))] ∧ w2 = w') ?_ ?_
  · simp only [xP_lss, List.getD_cons_zero, List.getD_cons_succ, xIf_dec]
    refine ⟨fun h => ⟨?_, trivial⟩, fun h => ⟨?_, trivial⟩⟩
    · have := Int.ofNat_lt.1 h
      simp [this]
      omega
    · simp
      omega
  rintro _ _ _ ⟨rfl, rfl⟩
  simp only [xP_add, List.getD_cons_zero, List.getD_cons_succ, xIf_dec]
  refine ⟨fun hlt => ?_, fun hge => ?_⟩
  · obtain ⟨lb, lo, rfl, hat⟩ := hlr.resolve_left (by intro h; rw [h] at hlt; simp at hlt)
    have hel := (at_elem encA_len hat (List.getElem?_eq_getElem hlt.1)).kept hk2 (by simp)
    have wc : ∀ w', w' = w' → Gives Try.prog 13 #[.int .i64 (l[i]'hlt.1).count, .int .i64 1, .int .i64 8] w' fun v w'' => v = .int .i64 (within (l[i]'hlt.1).count 1 8) ∧ w' = w'' := fun w' _ => within_ok (by omega) (by omega) (by omega)
    have wt : ∀ w', w' = w' → Gives Try.prog 13 #[.int .i64 (l[i]'hlt.1).time, .int .i64 0, .int .i64 50] w' fun v w'' => v = .int .i64 (within (l[i]'hlt.1).time 0 50) ∧ w' = w'' := fun w' _ => within_ok (by omega) (by omega) (by omega)
    have hc := within_bd (n := (l[i]'hlt.1).count) (lo := 1) (hi := 8) (by omega)
    generalize within (l[i]'hlt.1).count 1 8 = c at *
    generalize within (l[i]'hlt.1).time 0 50 = t at *
    generalize hH : (⟨next, c, t, 0, 0⟩ : Hd) = H
    have hHb : H.base = next := by subst hH; rfl
    have hHc : H.count = c := by subst hH; rfl
    refine xJoin_of (fun vs w' => ∃ (hs' : List Hd) (Fx' Fy' : List Nat), vs = [.int .i64 (next + c)] ∧ hs'.length ≤ i + 1 ∧ Chain hs' (next + c) ∧ Ix w' B ea hs' Fx' ∧ Ix w' (B + 1) eb hs' Fy' ∧ (∀ g ∈ Fx', B ≤ g ∧ g ∉ Fy') ∧ (∀ g ∈ Fy', B ≤ g) ∧ Kept [] w w' ∧ B < w'.heap.size) ?_ ?_
    · refine xJoin_of (fun vs w' => ∃ g, vs = [.pointer (some ⟨g, 0, none⟩)] ∧ Blk w' g 26 (encH H) ∧ w2.heap.size ≤ g ∧ Kept [] w2 w') ?_ ?_
      · -- the head's variable, in whatever order
        have st : ∀ (w3 w4 : World) (g : Nat) (vs : List Value), Blk w3 g 26 [.int .i64 0, .int .i64 0, .int .i64 0, .int .i64 0, .int .i64 0] → w2.heap.size ≤ g → Kept [] w2 w3 → Blk w4 g 26 ([] ++ (Value.agg (encH H).toArray).cells.toList ++ []) → Kept [g] w3 w4 →
            vs = [.pointer (some ⟨g, 0, none⟩)] → ∃ g, vs = [.pointer (some ⟨g, 0, none⟩)] ∧ Blk w4 g 26 (encH H) ∧ w2.heap.size ≤ g ∧ Kept [] w2 w4 := by
          intro w3 w4 g vs h3 hg hk h4 hk4 hv
          exact ⟨g, hv, by simpa [Value.cells] using h4, hg, hk.then hk4 (by simp [hg])⟩
        refine (xP_IAn SL_34 SZ_37 hlt.1).2 ?_
        try simp only [FA_37_2]
        refine (ld1 ONE_3 (at_cell (at_drew hel) (j := 2) rfl)).2 ?_
        refine (xP_IAn SL_34 SZ_37 hlt.1).2 ?_
        try simp only [FA_37_3]
        refine (ld1 ONE_3 (at_cell (at_drew hel) (j := 3) rfl)).2 ?_
        refine ⟨?_, ?_⟩
        · refine xE_call CF_13 (wc _ rfl) ?_
          rintro _ _ ⟨rfl, rfl⟩
          refine (still1 ONE_3 (at_cell (at_drew hel) (j := 3) rfl)).2 ?_
          refine ⟨?_, ?_⟩
          · refine xE_call CF_13 (wt _ rfl) ?_
            rintro _ _ ⟨rfl, rfl⟩
            refine (xP_build (cells := (encH ⟨next, c, t, 0, 0⟩).toArray) (by kernel_rfl)).2 ?_
            rw [hH]
            refine xE_alloc Z_26 fun w3 hb3 hk3 hz3 => ?_
            refine xE_storeN (l1 := []) (l2 := [.int .i64 0, .int .i64 0, .int .i64 0, .int .i64 0, .int .i64 0]) (l3 := []) SZ_26 hb3 rfl rfl rfl (head_cells H) fun w4 hb4 hk4 hz4 => ?_
            exact st _ _ _ _ hb3 (Nat.le_refl _) hk3.of_drew hb4 hk4 rfl
          · refine xE_alloc Z_26 fun w3 hb3 hk3 hz3 => ?_
            refine (still1 ONE_3 (at_cell ((at_drew hel).kept hk3 (by simp)) (j := 3) rfl)).2 ?_
            refine xE_call CF_13 (wt _ rfl) ?_
            rintro _ _ ⟨rfl, rfl⟩
            refine (xP_build (cells := (encH ⟨next, c, t, 0, 0⟩).toArray) (by kernel_rfl)).2 ?_
            rw [hH]
            refine xE_storeN (l1 := []) (l2 := [.int .i64 0, .int .i64 0, .int .i64 0, .int .i64 0, .int .i64 0]) (l3 := []) SZ_26 hb3 rfl rfl rfl (head_cells H) fun w4 hb4 hk4 hz4 => ?_
            exact st _ _ _ _ hb3 (Nat.le_refl _) hk3.of_drew hb4 hk4 rfl
        · refine xE_alloc Z_26 fun w3 hb3 hk3 hz3 => ?_
          refine (still1 ONE_3 (at_cell ((at_drew hel).kept hk3 (by simp)) (j := 3) rfl)).2 ?_
          refine (still1 ONE_3 (at_cell ((at_drew hel).kept hk3 (by simp)) (j := 2) rfl)).2 ?_
          refine xE_call CF_13 (wc _ rfl) ?_
          rintro _ _ ⟨rfl, rfl⟩
          refine (still1 ONE_3 (at_cell ((at_drew hel).kept hk3 (by simp)) (j := 3) rfl)).2 ?_
          refine xE_call CF_13 (wt _ rfl) ?_
          rintro _ _ ⟨rfl, rfl⟩
          refine (xP_build (cells := (encH ⟨next, c, t, 0, 0⟩).toArray) (by kernel_rfl)).2 ?_
          rw [hH]
          refine xE_storeN (l1 := []) (l2 := [.int .i64 0, .int .i64 0, .int .i64 0, .int .i64 0, .int .i64 0]) (l3 := []) SZ_26 hb3 rfl rfl rfl (head_cells H) fun w4 hb4 hk4 hz4 => ?_
          exact st _ _ _ _ hb3 (Nat.le_refl _) hk3.of_drew hb4 hk4 rfl
      rintro _ _ w3 ⟨g, rfl, hbg, hgw, hk3⟩
      try simp only [Nat.zero_add, List.getD_cons_zero, FA_26_1]
      refine (ld1 ONE_3 (hbg.cell (o := 1))).2 ?_
      try simp only [xP_add]
      rw [hHc, wrap64 (by omega) (by omega)]
      refine (ldN (l := encH H) AGG_26 hbg.at).2 ?_
      have hFxlt := hix.lt
      have hFylt := hiy.lt
      have z3 := hk3.size
      refine xE_call CF_9 (add_ok (h := H) (hix.kept hk3 (by simp)) (by omega)) ?_
      rintro _ w4 ⟨rfl, F4, hix4, hk4, hf4⟩
      have z4 := hk4.size
      have hbg4 := hbg.kept hk4 (fun h => by have := hFxlt g h; omega)
      refine (ldN (l := encH H) AGG_26 hbg4.at).2 ?_
      have hiy4 := (hiy.kept hk3 (by simp)).kept hk4 (fun g' hg' hgx => (hFx g' hgx).2 hg')
      refine xE_call CF_9 (add_ok (h := H) hiy4 (by omega)) ?_
      rintro _ w5 ⟨rfl, F5, hiy5, hk5, hf5⟩
      have z5 := hk5.size
      have hF4lt := hix4.lt
      have hF4 : ∀ g ∈ F4, B ≤ g ∧ g ∉ Fy := fun g hg => (hf4 g hg).elim (fun h => hFx g h) (fun h => ⟨by omega, fun hy => by have := hFylt g hy; omega⟩)
      have hF5 : ∀ g ∈ F5, B ≤ g := fun g hg => (hf5 g hg).elim (fun h => hFy g h) (fun h => by omega)
      have hF45 : ∀ g ∈ F4, B ≤ g ∧ g ∉ F5 := fun g hg => ⟨(hF4 g hg).1, fun h5 => (hf5 g h5).elim (fun h => (hF4 g hg).2 h) (fun h => by have := hF4lt g hg; omega)⟩
      have hix5 := hix4.kept hk5 (fun g hg => (hF4 g hg).2)
      have hk25 : Kept [] w w5 := ((hk2.then hk3 (by simp)).then hk4 (fun g hg => .inr (by have := (hFx g hg).1; omega))).then hk5 (fun g hg => .inr (by have := hFy g hg; omega))
      have hch5 : Chain (hs ++ [H]) (next + c) := by have := hch.snoc (x := H) (by omega) (by omega) (by omega); rwa [hHb, hHc] at this
      refine (xP_IAn SL_34 SZ_37 hlt.1).2 ?_
      try simp only [Nat.add_zero, FA_37_0]
      have hel5 := (at_elem encA_len hat (List.getElem?_eq_getElem hlt.1)).kept hk25 (by simp)
      refine (ld1 ONE_3 (at_cell hel5 (j := 0) rfl)).2 ?_
      simp only [xR_eql, xIf_dec]
      refine ⟨fun _ => ?_, fun _ => ?_⟩
      · refine xE_call CF_15 (drop_ok (n := 1) hix5 (by simp; omega)) ?_
        rintro _ w6 ⟨rfl, F6, hix6, hk6, hf6⟩
        have z6 := hk6.size
        have hF5lt := hiy5.lt
        refine xE_call CF_15 (drop_ok (n := 1) (hiy5.kept hk6 (fun g hg h4 => (hF45 g h4).2 hg)) (by simp; omega)) ?_
        rintro _ w7 ⟨rfl, F7, hiy7, hk7, hf7⟩
        have z7 := hk7.size
        have hF6lt := hix6.lt
        have hF6 : ∀ g ∈ F6, B ≤ g ∧ g ∉ F5 := fun g hg => (hf6 g hg).elim (fun h => hF45 g h) (fun h => ⟨by omega, fun h5 => by have := hF5lt g h5; omega⟩)
        refine ⟨(hs ++ [H]).drop 1, F6, F7, by simp, by rw [List.length_drop]; simp; omega, hch5.drop 1, hix6.kept hk7 (fun g hg => (hF6 g hg).2), hiy7, fun g hg => ⟨(hF6 g hg).1, fun h7 => (hf7 g h7).elim (fun h => (hF6 g hg).2 h) (fun h => by have := hF6lt g hg; omega)⟩,
          fun g hg => (hf7 g hg).elim (fun h => hF5 g h) (fun h => by omega), (hk25.then hk6 (fun g hg => .inr (by have := (hF45 g hg).1; omega))).then hk7 (fun g hg => .inr (by have := hF5 g hg; omega)), by omega⟩
      · exact ⟨hs ++ [H], F4, F5, by simp, by simp; omega, hch5, hix5, hiy5, hF45, hF5, hk25, by omega⟩
    rintro _ _ w3 ⟨hs', Fx', Fy', rfl, hl', hch', hix', hiy', hFx', hFy', hk3, hB3⟩
    try simp only [List.getD_cons_zero]
    rw [wrap64 (by omega) (by omega)]
    exact ⟨⟨hs', Fx', Fy', i + 1, next + c, rfl, by omega, by omega, hl', by omega, by omega, hch', hix', hiy', hFx', hFy', hk3, hB3⟩, by omega⟩
  · -- what both find
    have hs1 : Sorted hs := hch.1
    have hs2 : Ranged hs := hch.ranged (by omega)
    try simp only [xP_nil, xP_pick, xP_func, xP_not, xP_add, xP_sub, xP_mul, xP_lss, xP_leq, xP_gtr, xP_geq, xP_max2, xP_min2, xR_eql, xR_neq, Nat.zero_add, Nat.add_zero, Nat.reduceAdd, List.getD_cons_zero, List.getD_cons_succ, xIf_true, xIf_false, FA_26_0, FA_26_1, FA_26_2, FA_37_0, FA_37_1, FA_37_2, FA_37_3, FA_44_0, FA_44_1, FA_44_2, LEN_28, LEN_34, LEN_35]
    refine xLoop_of (fun vs w' => ∃ k : Nat, vs = [.int .i64 k] ∧ k ≤ ask.length ∧ k ≤ 20 ∧ Kept [] w2 w') (fun vs _ => match vs with | [.int _ k] => 20 - k.toNat | _ => 0) ⟨0, rfl, by omega, by omega, Kept.refl _ _⟩ ?_
    rintro _ _ w3 ⟨k, rfl, hka, hk20, hk3⟩
    refine xJoin_of (fun vs w' => vs = [.bool (decide (k < ask.length ∧ k < 20))] ∧ w3 = w') ?_ ?_
    · simp only [xP_lss, List.getD_cons_zero, xIf_dec]
      refine ⟨fun h => ⟨?_, trivial⟩, fun h => ⟨?_, trivial⟩⟩
      · have := Int.ofNat_lt.1 h
        simp [this]
        omega
      · simp
        omega
    rintro _ _ _ ⟨rfl, rfl⟩
    simp only [xP_add, List.getD_cons_zero, xIf_dec]
    have hix3 := hix.kept hk3 (by simp)
    have hiy3 := hiy.kept hk3 (by simp)
    refine ⟨fun hlt => ?_, fun hge' => ?_⟩
    · obtain ⟨kb, ko, rfl, hat⟩ := hkr.resolve_left (by intro h; rw [h] at hlt; simp at hlt)
      have hel := at_one (at_drew ((at_elem encI_len hat (List.getElem?_eq_getElem hlt.1)).kept (hk2.then hk3 (by simp)) (by simp)))
      generalize ask[k]'hlt.1 = q at *
      refine (xP_IAn SL_28 SZ_3 hlt.1).2 ?_
      refine (ld1 ONE_3 hel).2 ?_
      try simp only [xP_nil, xP_pick, xP_func, xP_not, xP_add, xP_sub, xP_mul, xP_lss, xP_leq, xP_gtr, xP_geq, xP_max2, xP_min2, xR_eql, xR_neq, Nat.zero_add, Nat.add_zero, Nat.reduceAdd, List.getD_cons_zero, List.getD_cons_succ, xIf_true, xIf_false, FA_26_0, FA_26_1, FA_26_2, FA_37_0, FA_37_1, FA_37_2, FA_37_3, FA_44_0, FA_44_1, FA_44_2, LEN_28, LEN_34, LEN_35]
      rw [wrap64 (by omega) (by omega)]
      refine (xP_IAn SL_28 SZ_3 hlt.1).2 ?_
      refine (ld1 ONE_3 hel).2 ?_
      refine xE_call CF_13 (within_ok (by omega) (by omega) (by omega)) ?_
      rintro _ _ ⟨rfl, rfl⟩
      refine (still1 ONE_3 hel).2 ?_
      refine xE_call CF_13 (within_ok (by omega) (by omega) (by omega)) ?_
      rintro _ _ ⟨rfl, rfl⟩
      have hob := within_bd (n := q) (lo := 0) (hi := next + 5) (by omega)
      generalize within q 0 (next + 5) = o at *
      generalize within q 0 52 = t at *
      have hkd : Kept [] w3 w3.drew := (Kept.refl _ _).drew
      refine xE_call CF_10 (seek_ok (hix3.kept hkd (by simp)) (by omega) hs1 hs2 (fun _ => by omega)) ?_
      rintro _ w4 ⟨rfl, hk4⟩
      have hk34 : Kept [] w3 w4 := hkd.then hk4 (by simp)
      have hfl := List.findIdx_le_length (p := has o) (xs := hs)
      generalize hS : hs.findIdx (has o) = S at *
      refine xJoin_of (fun vs w' => vs = [.bool false] ∧ Kept [] w4 w') ?_ ?_
      · refine xE_call CF_10 (seek_ok (hiy3.kept hk34 (by simp)) (by omega) hs1 hs2 (fun _ => by omega)) ?_
        rintro _ w5 ⟨rfl, hk5⟩
        rw [hS]
        simp only [xP_sub, xP_lss, xP_gtr, xR_neq, xIf_false, ne_eq, not_true_eq_false, decide_false]
        have hk35 : Kept [] w3 w5 := hk34.then hk5 (by simp)
        refine xE_call CF_11 (when_ok (hix3.kept hk35 (by simp)) (by omega)) ?_
        rintro _ w6 ⟨rfl, hk6⟩
        have hk36 : Kept [] w3 w6 := hk35.then hk6 (by simp)
        refine xE_call CF_11 (when_ok (hiy3.kept hk36 (by simp)) (by omega)) ?_
        rintro _ w7 ⟨rfl, hk7⟩
        have hk37 : Kept [] w3 w7 := hk36.then hk7 (by simp)
        have hk47 : Kept [] w4 w7 := (hk5.then hk6 (by simp)).then hk7 (by simp)
        have e0 : ¬ ((S : Int) < 0) := by omega
        simp only [xR_neq, xIf_false, ne_eq, not_true_eq_false, decide_false, e0]
        refine xE_call CF_16 (len_ok (hix3.kept hk37 (by simp))) ?_
        rintro _ w8 ⟨rfl, hk8⟩
        have e1 : ¬ ((hs.length : Int) < S) := by omega
        simp only [xP_gtr, xIf_false, decide_false, e1]
        have hk38 : Kept [] w3 w8 := hk37.then hk8 (by simp)
        have hk48 : Kept [] w4 w8 := hk47.then hk8 (by simp)
        refine xE_call CF_16 (len_ok (hix3.kept hk38 (by simp))) ?_
        rintro _ w9 ⟨rfl, hk9⟩
        have hk39 : Kept [] w3 w9 := hk38.then hk9 (by simp)
        have hk49 : Kept [] w4 w9 := hk48.then hk9 (by simp)
        simp only [xP_lss, xIf_dec]
        refine ⟨fun hSl => ?_, fun hSl => ?_⟩
        · have hSl' : S < hs.length := by omega
          refine xE_call CF_14 (head_ok (i := S) (hix3.kept hk39 (by simp))) ?_
          rintro _ w10 ⟨rfl, hk10⟩
          have hk310 : Kept [] w3 w10 := hk39.then hk10 (by simp)
          rw [if_pos (by omega)]
          refine FH0.2 ?_
          refine xE_call CF_14 (head_ok (i := S) (hix3.kept hk310 (by simp))) ?_
          rintro _ w11 ⟨rfl, hk11⟩
          have hk311 : Kept [] w3 w11 := hk310.then hk11 (by simp)
          have hk411 : Kept [] w4 w11 := (hk49.then hk10 (by simp)).then hk11 (by simp)
          rw [if_pos (by omega)]
          refine FH1.2 ?_
          have hg : hs.getD (Int.toNat (S : Int)) zH = hs[S] := by simp [List.getD, hSl']
          rw [hg]
          have hr := hs2 _ (List.getElem_mem hSl')
          have hhas : has o hs[S] = true := by
            have : hs.findIdx (has o) < hs.length := by omega
            have := List.findIdx_getElem (w := this)
            simpa only [hS] using this
          simp only [has, decide_eq_true_eq] at hhas
          try simp only [xP_add, xP_leq]
          rw [wrap64 (by omega) (by omega)]
          have e2 : ¬ (hs[S].base + hs[S].count ≤ o) := by omega
          simp only [xIf_false, e2, decide_false]
          refine ⟨fun h0 => ?_, fun _ => ⟨trivial, hk411⟩⟩
          rw [wrap64 (by omega) (by omega)]
          have e3 := before (by omega : 0 < S) hS hfl
          refine xE_call CF_14 (head_ok (i := (S : Int) - 1) (hix3.kept hk311 (by simp))) ?_
          rintro _ w12 ⟨rfl, hk12⟩
          rw [if_pos (by omega)]
          refine FH0.2 ?_
          refine xE_call CF_14 (head_ok (i := (S : Int) - 1) (hix3.kept (hk311.then hk12 (by simp)) (by simp))) ?_
          rintro _ w13 ⟨rfl, hk13⟩
          rw [if_pos (by omega)]
          refine FH1.2 ?_
          have hr2 := hs2 _ e3.1
          try simp only [xP_add, xP_gtr]
          rw [wrap64 (by omega) (by omega)]
          have e4 := e3.2
          refine ⟨?_, (hk411.then hk12 (by simp)).then hk13 (by simp)⟩
          simp only [List.cons.injEq, Value.bool.injEq, decide_eq_false_iff_not, and_true]
          omega
        · try simp only [xP_nil, xP_pick, xP_func, xP_not, xP_add, xP_sub, xP_mul, xP_lss, xP_leq, xP_gtr, xP_geq, xP_max2, xP_min2, xR_eql, xR_neq, Nat.zero_add, Nat.add_zero, Nat.reduceAdd, List.getD_cons_zero, List.getD_cons_succ, xIf_true, xIf_false, FA_26_0, FA_26_1, FA_26_2, FA_37_0, FA_37_1, FA_37_2, FA_37_3, FA_44_0, FA_44_1, FA_44_2, LEN_28, LEN_34, LEN_35, xIf_dec]
          refine ⟨fun h0 => ?_, fun _ => ⟨trivial, hk49⟩⟩
          rw [wrap64 (by omega) (by omega)]
          have e3 := before (by omega : 0 < S) hS hfl
          refine xE_call CF_14 (head_ok (i := (S : Int) - 1) (hix3.kept hk39 (by simp))) ?_
          rintro _ w12 ⟨rfl, hk12⟩
          rw [if_pos (by omega)]
          refine FH0.2 ?_
          refine xE_call CF_14 (head_ok (i := (S : Int) - 1) (hix3.kept (hk39.then hk12 (by simp)) (by simp))) ?_
          rintro _ w13 ⟨rfl, hk13⟩
          rw [if_pos (by omega)]
          refine FH1.2 ?_
          have hr2 := hs2 _ e3.1
          try simp only [xP_add, xP_gtr]
          rw [wrap64 (by omega) (by omega)]
          have e4 := e3.2
          refine ⟨?_, (hk49.then hk12 (by simp)).then hk13 (by simp)⟩
          simp only [List.cons.injEq, Value.bool.injEq, decide_eq_false_iff_not, and_true]
          omega
      rintro _ _ w5 ⟨rfl, hk5⟩
      try simp only [List.getD_cons_zero, xIf_false]
      rw [wrap64 (by omega) (by omega)]
      exact ⟨⟨k + 1, rfl, by omega, by omega, (hk3.then hk34 (by simp)).then hk5 (by simp)⟩, by omega⟩
    · refine xE_call CF_16 (len_ok hix3) ?_
      rintro _ w4 ⟨rfl, hk4⟩
      refine xE_call CF_16 (len_ok (hiy3.kept hk4 (by simp))) ?_
      rintro _ w5 ⟨rfl, hk5⟩
      simp only [xR_eql, xIf_true, decide_true]
      refine xE_call CF_3 runs_ok ?_
      rintro _ w6 ⟨rfl, hk6⟩
      exact ⟨rfl, ((((hk2.then hk3 (by simp)).then hk4 (by simp)).then hk5 (by simp))).then hk6 (by simp)⟩
end Go.Proofs.Ytolincflccddhaa
