import Derived.Test.YtolincflccddhaaXAsk
namespace Go.Proofs.Ytolincflccddhaa
open Go Go.X

theorem nearH_time : ∀ (cs : List Int) (b t : Int) (i : Nat) (h : Hd), (nearH b t cs)[i]? = some h → h.time = t + i
  | [], _, _, i, h, hh => by simp [nearH] at hh
  | c :: cs, b, t, 0, h, hh => by simp [nearH] at hh; subst hh; simp
  | c :: cs, b, t, i + 1, h, hh => by
    simp only [nearH, List.getElem?_cons_succ] at hh
    have := nearH_time cs _ _ i h hh
    omega
theorem findIdx_drop {hs : List Hd} (h1 : Sorted hs) (h2 : Ranged hs) (o : Int) (k : Nat) (hk : k ≤ hs.length) : ((hs.drop k).findIdx (has o) : Int) = max ((hs.findIdx (has o) : Int) - k) 0 := by
  by_cases hlt : hs.findIdx (has o) < k
  · have : (hs.drop k).findIdx (has o) = 0 := by
      rcases Nat.lt_or_ge k hs.length with hkl | hkl
      · have hp : has o (hs[hs.findIdx (has o)]'(by omega)) = true := List.findIdx_getElem (w := by omega)
        have hs1 := h1 _ k _ _ hlt (List.getElem?_eq_getElem (by omega)) (List.getElem?_eq_getElem hkl)
        have hr := h2 _ (List.getElem_mem hkl)
        rw [List.drop_eq_getElem_cons hkl, List.findIdx_cons]
        have : has o hs[k] = true := by
          generalize hs[hs.findIdx (has o)]'(by omega) = y at hp hs1
          unfold has at hp ⊢
          simp at hp ⊢
          omega
        rw [this]; rfl
      · rw [List.drop_eq_nil_of_le hkl]; rfl
    omega
  · have := findIdx_skip (p := has o) hs k hk (fun i x hi hx => by
      have := List.not_of_lt_findIdx (p := has o) (xs := hs) (i := i) (by omega)
      obtain ⟨hil, rfl⟩ := List.getElem?_eq_some_iff.1 hx
      simpa using this)
    omega
theorem sorted_drop {hs : List Hd} (h : Sorted hs) (k : Nat) : Sorted (hs.drop k) := by
  intro i j hi hj hij h1 h2
  rw [List.getElem?_drop] at h1 h2
  exact h _ _ _ _ (by omega) h1 h2
theorem ranged_drop {hs : List Hd} (h : Ranged hs) (k : Nat) : Ranged (hs.drop k) := fun x hx => h x (List.mem_of_mem_drop hx)

theorem drops_ok {w : World} {every n off : Int} {l : List Ask} {v : Value} (he : -9223372036854775808 ≤ every ∧ every ≤ 9223372036854775807) (hsl : SlT w encA v l) :
    Gives Try.prog 7 #[.int .i64 every, v, .int .i64 n, .int .i64 off] w fun u w' => u = .bool true ∧ Kept [] w w' := by
  refine C_IndexDrops ?_
  unfold S_IndexDrops
  refine xE_call CF_8 (new_ok he.1 he.2) ?_
  rintro _ w1 ⟨rfl, hx0, hk1, hz1⟩
  generalize hb : w.heap.size = b at *
  generalize (max every 1).toNat = ev at *
  obtain ⟨la, lc, rfl, hlc, hlr⟩ := hsl
  -- an index without heads
  refine xJoin_of (fun vs w' => vs = [.bool false] ∧ Kept [] w1 w') ?_ ?_
  · simp only [xR_pnil PT_22, xIf_false, Option.isNone_some]
    refine xE_call CF_16 (len_ok hx0) ?_
    rintro _ w2 ⟨rfl, hk2⟩
    simp only [xR_neq, xIf_false, List.length_nil, Int.natCast_zero, ne_eq, not_true_eq_false, decide_false, xP_and]
    have hx2 := hx0.kept hk2 (by simp)
    refine xE_call CF_10 (seek_ok hx2 (by simp) (fun i j hi hj _ h1 => by simp at h1) (fun h hm => by simp at hm) (fun h => absurd rfl h)) ?_
    rintro _ w3 ⟨rfl, hk3⟩
    simp only [xR_neq, xIf_false, List.findIdx_nil, Int.natCast_zero, ne_eq, not_true_eq_false, decide_false]
    refine xE_call CF_11 (when_ok (hx2.kept hk3 (by simp)) (by simp)) ?_
    rintro _ w4 ⟨rfl, hk4⟩
    simp only [xR_neq, List.findIdx_nil, Int.natCast_zero, ne_eq, not_true_eq_false, decide_false]
    exact ⟨trivial, (hk2.then hk3 (by simp)).then hk4 (by simp)⟩
  rintro _ _ w1' ⟨rfl, hk1'⟩
  have hx0' := hx0.kept hk1' (by simp)
  have hk01 : Kept [] w w1' := hk1.then hk1' (by simp)
  try simp only [List.getD_cons_zero, xIf_false, LEN_34]
  -- the heads
  refine xLoop_of (fun vs w' => ∃ (cs : List Int) (wv : Value) (F Fx : List Nat), vs = [wv, .int .i64 cs.sum, .int .i64 cs.length] ∧ cs.length ≤ 40 ∧ cs.length ≤ l.length ∧ (∀ c ∈ cs, 1 ≤ c ∧ c ≤ 8) ∧
      Own w' 26 5 wv cs.length ((nearH 0 0 cs).flatMap encH) F ∧ Ix w' b ev (nearH 0 0 cs) Fx ∧ (∀ g ∈ F, b ≤ g ∧ g ∉ Fx) ∧ (∀ g ∈ Fx, b ≤ g) ∧ Kept [] w w' ∧ b < w'.heap.size)
    (fun vs _ => match vs with | [_, _, .int _ k] => 40 - k.toNat | _ => 0) ⟨[], .slice none 0 0, [], [b], rfl, by simp, by simp, by simp, own_nil _ _ _, hx0', by simp, by simp, hk01, by have := hk1'.size; omega⟩ ?_
  rintro _ _ w2 ⟨cs, wv, F, Fx, rfl, hc40, hcl, hcr, hown, hix, hF, hFx, hk2, hbw⟩
  have hsum := sum_bd cs hcr
  have hll : (nearH 0 0 cs).length = cs.length := nearH_len _ _ _
  refine xJoin_of (fun vs w' => vs = [.bool (decide (cs.length < l.length ∧ cs.length < 40))] ∧ w2 = w') ?_ ?_
  · simp only [xP_lss, List.getD_cons_zero, List.getD_cons_succ, xIf_dec]
    refine ⟨fun h => ⟨?_, trivial⟩, fun h => ⟨?_, trivial⟩⟩
    · have := Int.ofNat_lt.1 h
      simp [this]
      omega
    · simp
      omega
  rintro _ _ _ ⟨rfl, rfl⟩
  simp only [xP_add, List.getD_cons_zero, List.getD_cons_succ, xIf_dec]
  refine ⟨fun hlt => ?_, fun hge => ?_⟩
  · -- one more head
    obtain ⟨lb, lo, rfl, hat⟩ := hlr.resolve_left (by intro h; rw [h] at hlt; simp at hlt)
    refine (xP_IAn SL_34 SZ_37 hlt.1).2 ?_
    try simp only [FA_37_2]
    have hel := (at_elem encA_len hat (List.getElem?_eq_getElem hlt.1)).kept hk2 (by simp)
    refine (ld1 ONE_3 (at_cell hel (j := 2) rfl)).2 ?_
    refine xE_call CF_13 (within_ok (by omega) (by omega) (by omega)) ?_
    rintro _ _ ⟨rfl, rfl⟩
    have hwb := within_bd (n := (l[cs.length]'hlt.1).count) (lo := 1) (hi := 5) (by omega)
    generalize within (l[cs.length]'hlt.1).count 1 5 = c at *
    refine (xP_build (cells := (encH ⟨cs.sum, c, cs.length, 0, 0⟩).toArray) (by kernel_rfl)).2 ?_
    refine xE_alloc Z_26 fun w3 hb3 hk3 hz3 => ?_
    refine xE_storeN (l1 := []) (l2 := [.int .i64 0, .int .i64 0, .int .i64 0, .int .i64 0, .int .i64 0]) (l3 := []) SZ_26 hb3 rfl rfl rfl (head_cells ⟨cs.sum, c, cs.length, 0, 0⟩) fun w4 hb4 hk4 hz4 => ?_
    generalize hH : (⟨cs.sum, c, cs.length, 0, 0⟩ : Hd) = H at *
    have hHc : H.count = c := by subst hH; rfl
    have hb4' : Blk w4 w2.heap.size 26 (encH H) := by simpa [Value.cells] using hb4
    have hk24 : Kept [] w2 w4 := hk3.trans hk4 (by simp) (by simp)
    try simp only [Nat.zero_add, FA_26_1]
    refine (ld1 ONE_3 (hb4'.cell (o := 1))).2 ?_
    try simp only [xP_add]
    rw [hHc, wrap64 (by omega) (by omega)]
    refine (ldN (l := encH H) AGG_26 hb4'.at).2 ?_
    have hix4 := hix.kept hk24 (by simp)
    refine xE_call CF_9 (add_ok (h := H) hix4 (by omega)) ?_
    rintro _ w5 ⟨rfl, F5, hix5, hk5, hf5⟩
    have hvb : w2.heap.size ∉ Fx := fun h => by have := hix.lt _ h; omega
    have hb5 := hb4'.kept hk5 hvb
    refine (ldN (l := encH H) AGG_26 hb5.at).2 ?_
    have hFlt := hown.lt
    have hown5 := (hown.kept hk24 (by simp)).kept hk5 (fun g hg => (hF g hg).2)
    refine xE_buildSlice EL_35 [.agg (encH H).toArray] rfl rfl (by simp [encH, Value.cells]) (by omega) (by omega) fun w6 hb6 hk6 hz6 => ?_
    refine xE_append EL_35 (hown5.kept hk6 (by simp)) (news := encH H) (m := 1) (by have := hb6.at; simpa [Value.cells] using this) rfl (head_cells H) (by omega) (by unfold maxLen; omega) (by omega) fun v' w7 F7 ho7 hk7 hf7 hone => ?_
    rw [wrap64 (by omega) (by omega)]
    have hH2 : nearH 0 0 (cs ++ [c]) = nearH 0 0 cs ++ [H] := by rw [nearH_snoc, ← hH]; simp
    have hsz5 := hk5.size
    have hsz24 := hk24.size
    have hsz6 := hk6.size
    have hsz7 := hk7.size
    have hf5' : ∀ g ∈ F5, b ≤ g ∧ g ∉ F := fun g hg => (hf5 g hg).elim (fun h => ⟨hFx g h, fun hgF => (hF g hgF).2 h⟩) (fun h => ⟨by omega, fun hgF => by have := hFlt g hgF; omega⟩)
    have hF5lt := hix5.lt
    refine ⟨⟨cs ++ [c], v', F7, F5, ?_, by simp; omega, by simp; omega, ?_, ?_, ?_, ?_, fun g hg => (hf5' g hg).1, ?_, by omega⟩, by simp; omega⟩
    · simp
    · intro x hx
      rcases List.mem_append.1 hx with hx | hx
      · exact hcr x hx
      · simp at hx; subst hx; omega
    · rw [hH2]
      simpa using ho7
    · rw [hH2]
      exact (hix5.kept hk6 (by simp)).kept hk7 (fun g hg => (hf5' g hg).2)
    · intro g hg
      rcases hf7 g hg with h | h
      · exact ⟨(hF g h).1, fun h5 => (hf5' g h5).2 h⟩
      · exact ⟨by omega, fun h5 => by have := hF5lt g h5; omega⟩
    · exact ((hk2.then hk24 (by simp)).then hk5 (fun g hg => .inr (by have := hFx g hg; omega))).then (hk6.trans hk7 (by simp) (fun g hg => .inl hg)) (fun g hg => .inr (by have := (hF g hg).1; omega))
  · -- what is dropped
    have hs1 : Sorted (nearH 0 0 cs) := nearH_sorted hcr
    have hs2 : Ranged (nearH 0 0 cs) := nearH_ranged hcr (by omega) (by omega)
    have htm : ∀ (i : Nat) (h : Hd), (nearH 0 0 cs)[i]? = some h → h.time = i := fun i h hh => by have := nearH_time _ _ _ _ _ hh; omega
    rw [← hll] at hown
    have hwsl := hown.slT encH_len (by omega)
    have hwaddr := hown.addr
    have hFlt := hown.lt
    obtain ⟨wa, wc, rfl, hwc, hwr⟩ := hwsl
    rw [hll] at hwc
    try simp only [LEN_35]
    rw [hll]
    refine xE_call CF_13 (within_ok (by omega) (by omega) (by omega)) ?_
    rintro _ _ ⟨rfl, rfl⟩
    have hkb := within_bd (n := n) (lo := 0) (hi := cs.length) (by omega)
    obtain ⟨k, hk⟩ := Int.eq_ofNat_of_zero_le hkb.1
    rw [hk] at hkb ⊢
    refine xE_call CF_13 (within_ok (by omega) (by omega) (by omega)) ?_
    rintro _ _ ⟨rfl, rfl⟩
    have hob := within_bd (n := off) (lo := 0) (hi := cs.sum) (by omega)
    generalize within off 0 cs.sum = o at *
    generalize hhs : nearH 0 0 cs = hs at *
    refine xE_call CF_10 (seek_ok hix (by omega) hs1 hs2 (fun _ => by omega)) ?_
    rintro _ w3 ⟨rfl, hk3⟩
    refine xE_call CF_15 (drop_ok (n := -1) (hix.kept hk3 (by simp)) (by omega)) ?_
    rintro _ w4 ⟨rfl, F4, hix4, hk4, hf4⟩
    simp only [show Int.toNat (-1) = 0 from rfl, List.drop_zero] at hix4
    refine xE_call CF_15 (drop_ok (n := k) hix4 (by omega)) ?_
    rintro _ w5 ⟨rfl, F5, hix5, hk5, hf5⟩
    simp only [Int.toNat_natCast] at hix5
    have z3 := hk3.size
    have z4 := hk4.size
    have z5 := hk5.size
    have hF4 : ∀ g ∈ F4, b ≤ g ∧ g ∉ F := fun g hg => (hf4 g hg).elim (fun h => ⟨hFx g h, fun hgF => (hF g hgF).2 h⟩) (fun h => ⟨by omega, fun hgF => by have := hFlt g hgF; omega⟩)
    have hF5 : ∀ g ∈ F5, b ≤ g ∧ g ∉ F := fun g hg => (hf5 g hg).elim (fun h => hF4 g h) (fun h => ⟨by omega, fun hgF => by have := hFlt g hgF; omega⟩)
    have hk25 : Kept [] w w5 := ((hk2.then hk3 (by simp)).then hk4 (fun g hg => .inr (by have := hFx g hg; omega))).then hk5 (fun g hg => .inr (by have := (hF4 g hg).1; omega))
    have hw5 : ∀ bb oo, wa = some ⟨bb, oo, none⟩ → At w5 bb oo (hs.flatMap encH) := by
      intro bb oo hwa
      have hbF : bb ∈ F := hwaddr bb oo _ _ (by rw [hwa])
      rcases hwr with h | ⟨b', o', h', hat⟩
      · rw [h]; exact At.nil _ _ _
      · rw [hwa] at h'; cases h'
        exact ((hat.kept hk3 (by simp)).kept hk4 (fun h => (hF bb hbF).2 h)).kept hk5 (fun h => (hF4 bb h).2 hbF)
    refine xJoin_of (fun vs w' => vs = [.bool false] ∧ Kept [] w5 w') ?_ ?_
    · refine xE_call CF_16 (len_ok hix5) ?_
      rintro _ w6 ⟨rfl, hk6⟩
      try simp only [xP_sub, xP_gtr, xP_max2, xR_neq]
      rw [wrap64 (by omega) (by omega)]
      have e1 : ((hs.drop k).length : Int) = (cs.length : Int) - k := by rw [List.length_drop]; omega
      rw [e1]
      simp only [xIf_false, ne_eq, not_true_eq_false, decide_false]
      have hix6 := hix5.kept hk6 (by simp)
      refine xE_call CF_10 (seek_ok hix6 (by rw [List.length_drop]; omega) (sorted_drop hs1 k) (ranged_drop hs2 k) (fun _ => by omega)) ?_
      rintro _ w7 ⟨rfl, hk7⟩
      have hle := List.findIdx_le_length (p := has o) (xs := hs)
      try simp only [xR_neq]
      rw [wrap64 (by omega) (by omega), findIdx_drop hs1 hs2 o k (by omega)]
      simp only [xIf_false, ne_eq, not_true_eq_false, decide_false]
      refine xE_call CF_11 (when_ok (hix6.kept hk7 (by simp)) (by rw [List.length_drop]; omega)) ?_
      rintro _ w8 ⟨rfl, hk8⟩
      have e2 : (hs.drop k).findIdx (fun h => decide ((k : Int) ≤ h.time)) = 0 := by
        rcases Nat.lt_or_ge k hs.length with hkl | hkl
        · rw [List.drop_eq_getElem_cons hkl, List.findIdx_cons]
          have := htm k _ (List.getElem?_eq_getElem hkl)
          simp [this]
        · rw [List.drop_eq_nil_of_le hkl]; rfl
      rw [e2]
      simp only [xR_neq, xIf_false, Int.natCast_zero, ne_eq, not_true_eq_false, decide_false]
      exact ⟨trivial, (hk6.then hk7 (by simp)).then hk8 (by simp)⟩
    rintro _ _ w6 ⟨rfl, hk6⟩
    try simp only [List.getD_cons_zero, xIf_false]
    have hix6 := hix5.kept hk6 (by simp)
    refine xLoop_of (fun vs w' => ∃ i : Nat, vs = [.int .i64 i] ∧ k ≤ i ∧ i ≤ hs.length ∧ Kept [] w6 w') (fun vs _ => match vs with | [.int _ i] => hs.length - i.toNat | _ => 0) ⟨k, rfl, by omega, by omega, Kept.refl _ _⟩ ?_
    rintro _ _ w7 ⟨i, rfl, hki, hil, hk7⟩
    simp only [xP_add, xP_sub, xP_lss, List.getD_cons_zero, xIf_dec]
    refine ⟨fun hlt => ?_, fun hge => ?_⟩
    · have hlt' : i < hs.length := by omega
      obtain ⟨wb, wo, rfl, _⟩ := hwr.resolve_left (by intro h; rw [h] at hlt'; simp at hlt')
      rw [wrap64 (by omega) (by omega)]
      refine (xP_IAn SL_35 SZ_26 (hll ▸ hlt')).2 ?_
      have hel := at_elem encH_len (((hw5 wb wo rfl).kept hk6 (by simp)).kept hk7 (by simp)) (List.getElem?_eq_getElem hlt')
      refine (ldN (l := encH hs[i]) AGG_26 (at_drew hel)).2 ?_
      refine xE_call CF_14 (head_ok (i := (i : Int) - k) (hix6.kept hk7.drew (by simp))) ?_
      rintro _ w8 ⟨rfl, hk8⟩
      refine (stillN (l := encH hs[i]) AGG_26 ((at_drew hel).kept hk8 (by simp))).2 ?_
      have e3 : (if 0 ≤ (i : Int) - k ∧ (i : Int) - k < (hs.drop k).length then (hs.drop k).getD ((i : Int) - k).toNat zH else zH) = hs[i] := by
        rw [if_pos (by rw [List.length_drop]; omega)]
        have : ((i : Int) - k).toNat = i - k := by omega
        rw [this, List.getD_eq_getElem?_getD, List.getElem?_drop, show k + (i - k) = i by omega, List.getElem?_eq_getElem hlt']
        rfl
      rw [e3]
      refine neqH.2 ?_
      simp only [xIf_false, decide_true, Bool.not_true]
      rw [wrap64 (by omega) (by omega)]
      exact ⟨⟨i + 1, rfl, by omega, hlt', hk7.drew.then hk8 (by simp)⟩, by omega⟩
    · refine xE_call CF_15 (drop_ok (n := 1099511627776) (hix6.kept hk7 (by simp)) (by rw [List.length_drop]; omega)) ?_
      rintro _ w8 ⟨rfl, F8, hix8, hk8, hf8⟩
      have hnil : (hs.drop k).drop (Int.toNat 1099511627776) = [] := List.drop_eq_nil_of_le (by rw [List.length_drop]; omega)
      rw [hnil] at hix8
      have q8 : Kept [] w w8 := ((hk25.then hk6 (by simp)).then hk7 (by simp)).then hk8 (fun g hg => .inr (by have := (hF5 g hg).1; omega))
      refine xE_call CF_16 (len_ok hix8) ?_
      rintro _ w9 ⟨rfl, hk9⟩
      simp only [xR_eql, xIf_true, List.length_nil, Int.natCast_zero, decide_true]
      have hix9 := hix8.kept hk9 (by simp)
      refine xE_call CF_10 (seek_ok hix9 (by simp) (fun i j hi hj _ h1 => by simp at h1) (fun h hm => by simp at hm) (fun h => absurd rfl h)) ?_
      rintro _ w10 ⟨rfl, hk10⟩
      simp only [xR_eql, xIf_true, List.findIdx_nil, Int.natCast_zero, decide_true]
      refine xE_call CF_14 (head_ok (i := 0) (hix9.kept hk10 (by simp))) ?_
      rintro _ w11 ⟨rfl, hk11⟩
      refine (xP_build (cells := (encH zH).toArray) (by kernel_rfl)).2 ?_
      rw [if_neg (by simp)]
      refine eqlH.2 ?_
      simp only [xIf_true, decide_true]
      refine xE_call CF_3 runs_ok ?_
      rintro _ w12 ⟨rfl, hk12⟩
      exact ⟨rfl, (((q8.then hk9 (by simp)).then hk10 (by simp)).then hk11 (by simp)).then hk12 (by simp)⟩
end Go.Proofs.Ytolincflccddhaa
