import Derived.Test.YtjajjblppogfoaaDoorXpIdx2
namespace Go.Proofs.YtjajjblppogfoaaDoor
set_option linter.unusedSimpArgs false
set_option linter.unusedVariables false
set_option maxRecDepth 100000
attribute [local irreducible] Go.X.xE
open Go Go.X

theorem head_cells (h : Hd) : ∀ u ∈ encH h, u.oneCell' = true := by
  intro u hu
  simp [encH] at hu
  rcases hu with rfl | rfl | rfl | rfl | rfl <;> rfl

theorem mark_ok {w : World} {b every : Nat} {hs : List Hd} {h : Hd} {lv mv : Value} {ms : List Int} {Fl Fm : List Nat} (h1 : Blk w b 123 [.int .i64 every, lv, mv]) (h2 : Own w 64 5 lv (hs ++ [h]).length ((hs ++ [h]).flatMap encH) Fl)
    (h3 : Own w 3 1 mv ms.length (ms.flatMap encI) Fm) (h4 : ∀ i : Nat, ms[i]? = (hs[i * every]?).map Hd.base) (h5 : 1 ≤ every) (h6 : every ≤ 9223372036854775807) (h7 : b ∉ Fl) (h8 : b ∉ Fm) (h9 : ∀ g ∈ Fl, g ∉ Fm) (hlen : hs.length ≤ 1000000) :
    Gives Tryd.prog 61 #[.pointer (some ⟨b, 0, none⟩)] w fun v w' => v = .tuple #[] ∧ ∃ F', Ix w' b every (hs ++ [h]) F' ∧ Kept (b :: Fm) w w' ∧ (∀ g ∈ F', g ∈ b :: Fl ++ Fm ∨ w.heap.size ≤ g) := by
  have hml := marks_len h4 h5
  refine C_index_Index_mark ?_
  unfold S_index_Index_mark
  try simp only [xP_nil, xP_pick, xP_func, xP_not, xP_add, xP_sub, xP_mul, xP_lss, xP_leq, xP_gtr, xP_geq, xP_max2, xP_min2, xR_eql, xR_neq, Nat.zero_add, Nat.add_zero, Nat.reduceAdd, List.getD_cons_zero, List.getD_cons_succ, xIf_true, xIf_false, FA_40_0, FA_40_1, FA_64_0, FA_64_1, FA_64_2, FA_67_0, FA_67_1, FA_67_2, FA_67_3, FA_75_0, FA_75_1, FA_75_2, FA_75_3, FA_82_0, FA_82_1, FA_82_2, FA_96_0, FA_96_1, FA_96_2, FA_123_0, FA_123_1, FA_123_2, LEN_34, LEN_38, LEN_51, LEN_56, LEN_60, LEN_65, LEN_83, LEN_88]
  refine (ld1 ONE_51 h1.cell).2 ?_
  have hsl := h2.slT encH_len (by omega)
  obtain ⟨la, lc, rfl, hlc, hlr⟩ := h2.slice
  try simp only [xP_nil, xP_pick, xP_func, xP_not, xP_add, xP_sub, xP_mul, xP_lss, xP_leq, xP_gtr, xP_geq, xP_max2, xP_min2, xR_eql, xR_neq, Nat.zero_add, Nat.add_zero, Nat.reduceAdd, List.getD_cons_zero, List.getD_cons_succ, xIf_true, xIf_false, FA_40_0, FA_40_1, FA_64_0, FA_64_1, FA_64_2, FA_67_0, FA_67_1, FA_67_2, FA_67_3, FA_75_0, FA_75_1, FA_75_2, FA_75_3, FA_82_0, FA_82_1, FA_82_2, FA_96_0, FA_96_1, FA_96_2, FA_123_0, FA_123_1, FA_123_2, LEN_34, LEN_38, LEN_51, LEN_56, LEN_60, LEN_65, LEN_83, LEN_88]
  rw [wrap64 (by simp) (by simp; omega)]
  refine (ld1 ONE_3 h1.cell).2 ?_
  refine (xP_rem (by omega)).2 ?_
  simp only [xR_eql, xIf_dec]
  have e0 : (((hs ++ [h]).length : Nat) : Int) - 1 = (hs.length : Int) := by simp
  rw [e0, Int.tmod_eq_emod_of_nonneg (by omega)]
  have hkey : ∀ i : Nat, ((hs ++ [h])[i * every]?).map Hd.base = if i * every = hs.length then some h.base else ms[i]? := by
    intro i
    rw [h4 i]
    split
    · rename_i he; rw [he]; simp
    · rename_i hne
      by_cases hlt : i * every < hs.length
      · rw [List.getElem?_append_left hlt]
      · rw [List.getElem?_eq_none (by simp; omega), List.getElem?_eq_none (by omega)]
  refine ⟨fun hz => ?_, fun hz => ?_⟩
  · -- a mark's turn
    refine (ld1 ONE_56 (blk_drew h1).cell).2 ?_
    refine (ld1 ONE_51 (blk_drew h1).cell).2 ?_
    obtain ⟨_, _, hv, _, hr⟩ := hsl
    cases hv
    obtain ⟨lb, lo, rfl, hat⟩ := hr.resolve_left (by simp)
    refine (xP_IAn SL_51 SZ_64 (by simp)).2 ?_
    try simp only [xP_nil, xP_pick, xP_func, xP_not, xP_add, xP_sub, xP_mul, xP_lss, xP_leq, xP_gtr, xP_geq, xP_max2, xP_min2, xR_eql, xR_neq, Nat.zero_add, Nat.add_zero, Nat.reduceAdd, List.getD_cons_zero, List.getD_cons_succ, xIf_true, xIf_false, FA_40_0, FA_40_1, FA_64_0, FA_64_1, FA_64_2, FA_67_0, FA_67_1, FA_67_2, FA_67_3, FA_75_0, FA_75_1, FA_75_2, FA_75_3, FA_82_0, FA_82_1, FA_82_2, FA_96_0, FA_96_1, FA_96_2, FA_123_0, FA_123_1, FA_123_2, LEN_34, LEN_38, LEN_51, LEN_56, LEN_60, LEN_65, LEN_83, LEN_88]
    have hel : (hs ++ [h])[hs.length]? = some h := by simp
    have he := at_elem encH_len hat hel
    refine (ld1 ONE_3 (at_one (at_drew (he.take 1)))).2 ?_
    refine xE_buildSlice EL_56 [.int .i64 h.base] rfl rfl (by simp [Value.cells]) (by omega) (by omega) fun w1 hb1 hk1 hz1 => ?_
    refine (still1 ONE_56 ((blk_drew h1).kept hk1 (by simp)).cell).2 ?_
    have h3' : Own w1 3 1 mv ms.length (ms.flatMap encI) Fm := h3.kept hk1.of_drew (by simp)
    refine xE_append EL_56 h3' (news := [.int .i64 h.base]) hb1.at rfl (by simp [Value.oneCell']) (by omega) (by unfold maxLen; omega) (by omega) fun v' w2 F2 ho2 hk2 hf2 hone => ?_
    try simp only [xP_nil, xP_pick, xP_func, xP_not, xP_add, xP_sub, xP_mul, xP_lss, xP_leq, xP_gtr, xP_geq, xP_max2, xP_min2, xR_eql, xR_neq, Nat.zero_add, Nat.add_zero, Nat.reduceAdd, List.getD_cons_zero, List.getD_cons_succ, xIf_true, xIf_false, FA_40_0, FA_40_1, FA_64_0, FA_64_1, FA_64_2, FA_67_0, FA_67_1, FA_67_2, FA_67_3, FA_75_0, FA_75_1, FA_75_2, FA_75_3, FA_82_0, FA_82_1, FA_82_2, FA_96_0, FA_96_1, FA_96_2, FA_123_0, FA_123_1, FA_123_2, LEN_34, LEN_38, LEN_51, LEN_56, LEN_60, LEN_65, LEN_83, LEN_88]
    have hk12 : Kept Fm w w2 := hk1.of_drew.trans hk2 (by simp) (fun k hk => .inl hk)
    have h1' := h1.kept hk12 h8
    refine xE_store1 SZ_56 h1' (by simp) hone fun w3 hb3 hk3 hz3 => ?_
    have hF2 : ∀ g ∈ F2, g ∈ Fm ∨ w.heap.size ≤ g := fun g hg => (hf2 g hg).imp id (fun h => by have := hk1.size; simp at this; omega)
    have hb2 : b ∉ F2 := fun hb => (hF2 b hb).elim h8 (fun h => by have := h1.lt; omega)
    refine ⟨rfl, b :: Fl ++ F2, ⟨_, v', ms ++ [h.base], Fl, F2, hb3, ?_, ?_, ?_, h5, h6, h7, hb2, ?_, rfl⟩, ?_, ?_⟩
    · exact (h2.kept hk12 h9).kept hk3 (fun g hg hgb => h7 (by simp at hgb; exact hgb ▸ hg))
    · have := ho2.kept hk3 (fun g hg hgb => hb2 (by simp at hgb; exact hgb ▸ hg))
      simpa [encI] using this
    · intro i
      rw [hkey i]
      have hd : every ∣ hs.length := Int.natCast_dvd_natCast.1 (Int.dvd_of_emod_eq_zero hz)
      obtain ⟨q, hq⟩ := hd
      have hmq : ms.length = q := by
        rcases Nat.lt_trichotomy ms.length q with hlt | he | hgt
        · have := h4 ms.length
          rw [List.getElem?_eq_none (Nat.le_refl _), List.getElem?_eq_getElem (by rw [hq, Nat.mul_comm]; exact Nat.mul_lt_mul_of_pos_left hlt h5)] at this
          simp at this
        · exact he
        · have := h4 q
          rw [List.getElem?_eq_getElem hgt, List.getElem?_eq_none (by rw [hq, Nat.mul_comm]; exact Nat.le_refl _)] at this
          simp at this
      by_cases hi : i * every = hs.length
      · rw [if_pos hi]
        have : i = q := by
          rw [hq, Nat.mul_comm] at hi
          exact Nat.eq_of_mul_eq_mul_left h5 hi
        rw [this, ← hmq]
        simp
      · rw [if_neg hi]
        by_cases hiq : i < ms.length
        · rw [List.getElem?_append_left hiq]
        · have : i ≠ ms.length := by
            intro h
            rw [h, hmq, Nat.mul_comm] at hi
            exact hi hq.symm
          rw [List.getElem?_eq_none (by simp; omega), List.getElem?_eq_none (by omega)]
    · intro g hg hg2
      rcases hF2 g hg2 with h | h
      · exact h9 g hg h
      · have := h2.lt g hg; omega
    · exact hk12.trans hk3 (fun k hk => .inl (by simp [hk])) (fun k hk => .inl (by simp at hk; simp [hk]))
    · intro g hg
      simp only [List.cons_append, List.mem_cons, List.mem_append] at hg ⊢
      rcases hg with h | h | h
      · exact .inl (.inl h)
      · exact .inl (.inr (.inl h))
      · exact (hF2 g h).imp (fun h => .inr (.inr h)) id
  · refine ⟨rfl, b :: Fl ++ Fm, ⟨_, mv, ms, Fl, Fm, h1, h2, h3, ?_, h5, h6, h7, h8, h9, rfl⟩, Kept.refl _ _, fun g hg => .inl hg⟩
    intro i
    rw [hkey i, if_neg]
    intro hi
    apply hz
    rw [← hi]
    simp

theorem add_ok {w : World} {b every : Nat} {hs : List Hd} {h : Hd} {F : List Nat} (hx : Ix w b every hs F) (hlen : hs.length ≤ 1000000) :
    Gives Tryd.prog 49 #[.pointer (some ⟨b, 0, none⟩), vH h] w fun v w' => v = .tuple #[] ∧ ∃ F', Ix w' b every (hs ++ [h]) F' ∧ Kept F w w' ∧ (∀ g ∈ F', g ∈ F ∨ w.heap.size ≤ g) := by
  obtain ⟨lv, mv, ms, Fl, Fm, h1, h2, h3, h4, h5, h6, h7, h8, h9, rfl⟩ := hx
  refine C_index_Index_Add ?_
  unfold S_index_Index_Add
  refine xE_box fun w1 hb1 hk1 hz1 => ?_
  try simp only [xP_nil, xP_pick, xP_func, xP_not, xP_add, xP_sub, xP_mul, xP_lss, xP_leq, xP_gtr, xP_geq, xP_max2, xP_min2, xR_eql, xR_neq, Nat.zero_add, Nat.add_zero, Nat.reduceAdd, List.getD_cons_zero, List.getD_cons_succ, xIf_true, xIf_false, FA_40_0, FA_40_1, FA_64_0, FA_64_1, FA_64_2, FA_67_0, FA_67_1, FA_67_2, FA_67_3, FA_75_0, FA_75_1, FA_75_2, FA_75_3, FA_82_0, FA_82_1, FA_82_2, FA_96_0, FA_96_1, FA_96_2, FA_123_0, FA_123_1, FA_123_2, LEN_34, LEN_38, LEN_51, LEN_56, LEN_60, LEN_65, LEN_83, LEN_88]
  have h1' := h1.kept hk1 (by simp)
  refine (ld1 ONE_51 (blk_drew h1').cell).2 ?_
  refine (ldN (l := encH h) AGG_64 (blk_drew hb1).at).2 ?_
  refine xE_buildSlice EL_51 [vH h] rfl rfl (by simp [vH, encH, Value.cells]) (by omega) (by omega) fun w2 hb2 hk2 hz2 => ?_
  have hk12 : Kept [] w w2 := hk1.trans hk2.of_drew (by simp) (by simp)
  refine (still1 ONE_51 ((blk_drew h1').kept hk2 (by simp)).cell).2 ?_
  refine xE_append EL_51 (h2.kept hk12 (by simp)) (news := encH h) (m := 1) (by have := hb2.at; simpa [vH, Value.cells] using this) rfl (head_cells h) (by omega) (by unfold maxLen; omega) (by omega) fun v' w3 F3 ho3 hk3 hf3 hone => ?_
  try simp only [xP_nil, xP_pick, xP_func, xP_not, xP_add, xP_sub, xP_mul, xP_lss, xP_leq, xP_gtr, xP_geq, xP_max2, xP_min2, xR_eql, xR_neq, Nat.zero_add, Nat.add_zero, Nat.reduceAdd, List.getD_cons_zero, List.getD_cons_succ, xIf_true, xIf_false, FA_40_0, FA_40_1, FA_64_0, FA_64_1, FA_64_2, FA_67_0, FA_67_1, FA_67_2, FA_67_3, FA_75_0, FA_75_1, FA_75_2, FA_75_3, FA_82_0, FA_82_1, FA_82_2, FA_96_0, FA_96_1, FA_96_2, FA_123_0, FA_123_1, FA_123_2, LEN_34, LEN_38, LEN_51, LEN_56, LEN_60, LEN_65, LEN_83, LEN_88]
  have hk13 : Kept Fl w w3 := hk12.trans hk3 (by simp) (fun k hk => .inl hk)
  refine xE_store1 SZ_51 (h1.kept hk13 h7) (by simp) hone fun w4 hb4 hk4 hz4 => ?_
  have hF3 : ∀ g ∈ F3, g ∈ Fl ∨ w.heap.size ≤ g := fun g hg => (hf3 g hg).imp id (fun h => by have := hk12.size; omega)
  have hb3 : b ∉ F3 := fun hb => (hF3 b hb).elim h7 (fun h => by have := h1.lt; omega)
  have hk14 : Kept (b :: Fl) w w4 := hk13.trans hk4 (fun k hk => .inl (by simp [hk])) (fun k hk => .inl (by simp at hk; simp [hk]))
  have ho4 : Own w4 64 5 v' (hs ++ [h]).length ((hs ++ [h]).flatMap encH) F3 := by
    have := ho3.kept hk4 (fun g hg hgb => hb3 (by simp at hgb; exact hgb ▸ hg))
    simpa using this
  have h3' : Own w4 3 1 mv ms.length (ms.flatMap encI) Fm := h3.kept hk14 (fun g hg hgb => by
    rcases List.mem_cons.1 hgb with rfl | hgl
    · exact h8 hg
    · exact h9 g hgl hg)
  have h93 : ∀ g ∈ F3, g ∉ Fm := fun g hg hgm => (hF3 g hg).elim (fun h => h9 g h hgm) (fun h => by have := h3.lt g hgm; omega)
  refine xE_call CF_61 (mark_ok (hs := hs) (h := h) hb4 ho4 h3' h4 h5 h6 hb3 h8 h93 hlen) ?_
  rintro _ w5 ⟨rfl, F', hix, hk5, hf5⟩
  refine ⟨rfl, F', hix, hk14.trans hk5 (fun k hk => .inl (by simp at hk ⊢; rcases hk with h | h <;> simp [h])) (fun k hk => .inl (by simp at hk ⊢; rcases hk with h | h <;> simp [h])), fun g hg => ?_⟩
  rcases hf5 g hg with h | h
  · simp only [List.cons_append, List.mem_cons, List.mem_append] at h ⊢
    rcases h with h | h | h
    · exact .inl (.inl h)
    · exact (hF3 g h).imp (fun h => .inr (.inl h)) id
    · exact .inl (.inr (.inr h))
  · have := hk14.size; exact .inr (by omega)

theorem zeros_len : [Value.int .i64 0, .int .i64 0, .int .i64 0, .int .i64 0, .int .i64 0].length = 5 := rfl

theorem drop_ok {w : World} {b every : Nat} {hs : List Hd} {F : List Nat} {n : Int} (hx : Ix w b every hs F) (hlen : hs.length ≤ 1000000) :
    Gives Tryd.prog 53 #[.pointer (some ⟨b, 0, none⟩), .int .i64 n] w fun v w' => v = .tuple #[] ∧ ∃ F', Ix w' b every (hs.drop n.toNat) F' ∧ Kept F w w' ∧ (∀ g ∈ F', g ∈ F ∨ w.heap.size ≤ g) := by
  obtain ⟨lv, mv, ms, Fl, Fm, h1, h2, h3, h4, h5, h6, h7, h8, h9, rfl⟩ := hx
  refine C_index_Index_Drop ?_
  unfold S_index_Index_Drop
  try simp only [xP_nil, xP_pick, xP_func, xP_not, xP_add, xP_sub, xP_mul, xP_lss, xP_leq, xP_gtr, xP_geq, xP_max2, xP_min2, xR_eql, xR_neq, Nat.zero_add, Nat.add_zero, Nat.reduceAdd, List.getD_cons_zero, List.getD_cons_succ, xIf_true, xIf_false, FA_40_0, FA_40_1, FA_64_0, FA_64_1, FA_64_2, FA_67_0, FA_67_1, FA_67_2, FA_67_3, FA_75_0, FA_75_1, FA_75_2, FA_75_3, FA_82_0, FA_82_1, FA_82_2, FA_96_0, FA_96_1, FA_96_2, FA_123_0, FA_123_1, FA_123_2, LEN_34, LEN_38, LEN_51, LEN_56, LEN_60, LEN_65, LEN_83, LEN_88]
  refine (ld1 ONE_51 (blk_drew h1).cell).2 ?_
  refine (ld1 ONE_51 (blk_drew h1).cell).2 ?_
  have hsl := h2.slT encH_len (by omega)
  obtain ⟨la, lc, rfl, hlc, _⟩ := h2.slice
  have hba := h2.bases _ _ _ rfl
  try simp only [xP_nil, xP_pick, xP_func, xP_not, xP_add, xP_sub, xP_mul, xP_lss, xP_leq, xP_gtr, xP_geq, xP_max2, xP_min2, xR_eql, xR_neq, Nat.zero_add, Nat.add_zero, Nat.reduceAdd, List.getD_cons_zero, List.getD_cons_succ, xIf_true, xIf_false, FA_40_0, FA_40_1, FA_64_0, FA_64_1, FA_64_2, FA_67_0, FA_67_1, FA_67_2, FA_67_3, FA_75_0, FA_75_1, FA_75_2, FA_75_3, FA_82_0, FA_82_1, FA_82_2, FA_96_0, FA_96_1, FA_96_2, FA_123_0, FA_123_1, FA_123_2, LEN_34, LEN_38, LEN_51, LEN_56, LEN_60, LEN_65, LEN_83, LEN_88]
  -- how many go
  obtain ⟨k, hk, hkl, hdrop⟩ : ∃ k : Nat, min (hs.length : Int) (max n 0) = k ∧ k ≤ hs.length ∧ hs.drop n.toNat = hs.drop k := by
    refine ⟨min hs.length n.toNat, by omega, by omega, ?_⟩
    by_cases h : n.toNat ≤ hs.length
    · rw [Nat.min_eq_right h]
    · rw [Nat.min_eq_left (by omega), List.drop_eq_nil_of_le (by omega), List.drop_eq_nil_of_le (by omega)]
  rw [hk, hdrop]
  refine (xP_from SL_51 SZ_64 (by omega) (by omega)).2 ?_
  rw [Int.toNat_natCast]
  have hleft := SlT_from (k := k) encH_len hsl hkl
  obtain ⟨L, hL⟩ : ∃ L, hs.drop k = L := ⟨_, rfl⟩
  have hLl : hs.length - k = L.length := by rw [← hL, List.length_drop]
  have hLle : L.length ≤ 1000000 := by omega
  rw [hL, hLl] at hleft
  rw [hL, hLl]
  have hxa : ∀ bb o nn c, Value.slice (if lc = k then la else la.map (·.add (k * 5))) L.length (lc - k) = .slice (some ⟨bb, o, none⟩) nn c → bb ∈ Fl := by
    intro bb o nn c he
    rcases hba with rfl | ⟨g, go, rfl, hg⟩
    · split at he <;> simp at he
    · split at he
      · simp at he; rw [← he.1.1]; exact hg
      · simp [add_none] at he; rw [← he.1.1]; exact hg
  generalize (if lc = k then la else la.map (·.add (k * 5))) = xa at *
  -- the fields are emptied
  refine xE_store1 SZ_51 (blk_drew h1) (by simp) rfl fun w1 hb1 hk1 hz1 => ?_
  try simp only [xP_nil, xP_pick, xP_func, xP_not, xP_add, xP_sub, xP_mul, xP_lss, xP_leq, xP_gtr, xP_geq, xP_max2, xP_min2, xR_eql, xR_neq, Nat.zero_add, Nat.add_zero, Nat.reduceAdd, List.getD_cons_zero, List.getD_cons_succ, xIf_true, xIf_false, FA_40_0, FA_40_1, FA_64_0, FA_64_1, FA_64_2, FA_67_0, FA_67_1, FA_67_2, FA_67_3, FA_75_0, FA_75_1, FA_75_2, FA_75_3, FA_82_0, FA_82_1, FA_82_2, FA_96_0, FA_96_1, FA_96_2, FA_123_0, FA_123_1, FA_123_2, LEN_34, LEN_38, LEN_51, LEN_56, LEN_60, LEN_65, LEN_83, LEN_88]
  refine xE_store1 SZ_56 hb1 (by simp) rfl fun w2 hb2 hk2 hz2 => ?_
  try simp only [xP_nil, xP_pick, xP_func, xP_not, xP_add, xP_sub, xP_mul, xP_lss, xP_leq, xP_gtr, xP_geq, xP_max2, xP_min2, xR_eql, xR_neq, Nat.zero_add, Nat.add_zero, Nat.reduceAdd, List.getD_cons_zero, List.getD_cons_succ, xIf_true, xIf_false, FA_40_0, FA_40_1, FA_64_0, FA_64_1, FA_64_2, FA_67_0, FA_67_1, FA_67_2, FA_67_3, FA_75_0, FA_75_1, FA_75_2, FA_75_3, FA_82_0, FA_82_1, FA_82_2, FA_96_0, FA_96_1, FA_96_2, FA_123_0, FA_123_1, FA_123_2, LEN_34, LEN_38, LEN_51, LEN_56, LEN_60, LEN_65, LEN_83, LEN_88]
  have hk02 : Kept [b] w w2 := hk1.of_drew.then hk2 (by simp)
  have hsz2 : w2.heap.size = w.heap.size := by rw [hz2, hz1]; rfl
  have hIx0 : Ix w2 b every [] [b] := ⟨.slice none 0 0, .slice none 0 0, [], [], [], by simpa using hb2, own_nil _ _ _, own_nil _ _ _, by simp, h5, h6, by simp, by simp, by simp, rfl⟩
  have hs02 : SlT w2 encH (.slice xa L.length (lc - k)) L := hleft.kept hk02 (fun bb o nn c he hbb => h7 (by simp at hbb; exact hbb ▸ hxa bb o nn c he))
  refine xLoop_of (fun vs w' => ∃ (i : Nat) (F' : List Nat), vs = [.int .i64 i] ∧ i ≤ L.length ∧ Ix w' b every (L.take i) F' ∧ Kept (b :: Fl ++ Fm) w w' ∧ (∀ g ∈ F', g = b ∨ w.heap.size ≤ g) ∧ SlT w' encH (.slice xa L.length (lc - k)) L)
    (fun vs _ => match vs with | [.int _ i] => L.length - i.toNat | _ => 0) ⟨0, [b], rfl, by omega, by simpa using hIx0, hk02.mono (by simp), by simp, hs02⟩ ?_
  rintro _ _ w3 ⟨i, F', rfl, hi, hix, hk3, hf3, hs3⟩
  simp only [xP_nil, xP_pick, xP_func, xP_not, xP_add, xP_sub, xP_mul, xP_lss, xP_leq, xP_gtr, xP_geq, xP_max2, xP_min2, xR_eql, xR_neq, Nat.zero_add, Nat.add_zero, Nat.reduceAdd, List.getD_cons_zero, List.getD_cons_succ, xIf_true, xIf_false, FA_40_0, FA_40_1, FA_64_0, FA_64_1, FA_64_2, FA_67_0, FA_67_1, FA_67_2, FA_67_3, FA_75_0, FA_75_1, FA_75_2, FA_75_3, FA_82_0, FA_82_1, FA_82_2, FA_96_0, FA_96_1, FA_96_2, FA_123_0, FA_123_1, FA_123_2, LEN_34, LEN_38, LEN_51, LEN_56, LEN_60, LEN_65, LEN_83, LEN_88, xIf_dec]
  refine ⟨fun hlt => ?_, fun hge => ?_⟩
  · have hlt' : i < L.length := by omega
    have hs3' := hs3
    obtain ⟨xa', xc, he, _, hr⟩ := hs3'
    cases he
    obtain ⟨lb, lo, rfl, hat⟩ := hr.resolve_left (by intro h; rw [h] at hlt'; simp at hlt')
    refine (xP_IAn SL_51 SZ_64 hlt').2 ?_
    have hel := at_elem encH_len hat (List.getElem?_eq_getElem hlt')
    refine (ldN (l := encH L[i]) AGG_64 hel).2 ?_
    refine xE_alloc Z_64 fun w4 hb4 hk4 hz4 => ?_
    refine xE_storeN (l1 := []) (l2 := [.int .i64 0, .int .i64 0, .int .i64 0, .int .i64 0, .int .i64 0]) (l3 := []) SZ_64 hb4 rfl rfl rfl (head_cells L[i]) fun w5 hb5 hk5 hz5 => ?_
    refine (ldN (l := encH L[i]) AGG_64 (by simpa [Value.cells] using hb5.at)).2 ?_
    have hk35 : Kept [] w3 w5 := hk4.trans hk5 (by simp) (by simp)
    refine xE_call CF_49 (add_ok (h := L[i]) (hix.kept hk35 (by simp)) (by rw [List.length_take]; omega)) ?_
    rintro _ w6 ⟨rfl, F6, hix6, hk6, hf6⟩
    have hsz3 := hk3.size
    have hsz35 := hk35.size
    have hk06 : Kept (b :: Fl ++ Fm) w w6 := (hk3.then hk35 (by simp)).then hk6 (fun g hg => (hf3 g hg).imp (fun h => by simp [h]) id)
    have hlb : lb ∈ Fl := hxa lb lo _ _ rfl
    have hlbw := h2.lt lb hlb
    rw [wrap64 (by omega) (by omega)]
    refine ⟨⟨i + 1, F6, rfl, hlt', ?_, hk06, ?_, ?_⟩, ?_⟩
    · rw [List.take_succ_eq_append_getElem hlt']; exact hix6
    · intro g hg
      rcases hf6 g hg with h | h
      · exact hf3 g h
      · exact .inr (by omega)
    · refine (hs3.kept0 hk35).kept hk6 (fun bb o nn c he hbb => ?_)
      have : bb ∈ Fl := hxa bb o nn c he
      rcases hf3 bb hbb with h | h
      · exact h7 (h ▸ this)
      · have := h2.lt bb this; omega
    · omega
  · obtain rfl : i = L.length := by omega
    rw [List.take_length] at hix
    exact ⟨rfl, F', hix, hk3, fun g hg => (hf3 g hg).imp (fun h => by simp [h]) id⟩

/-! ## Head -/
def zH : Hd := ⟨0, 0, 0, 0, 0⟩
theorem head_ok {w : World} {b every : Nat} {hs : List Hd} {F : List Nat} {i : Int} (hx : Ix w b every hs F) :
    Gives Tryd.prog 52 #[.pointer (some ⟨b, 0, none⟩), .int .i64 i] w fun v w' => v = vH (if 0 ≤ i ∧ i < hs.length then hs.getD i.toNat zH else zH) ∧ Kept [] w w' := by
  obtain ⟨lv, mv, ms, Fl, Fm, h1, h2, h3, h4, h5, h6, h7, h8, h9, rfl⟩ := hx
  refine C_index_Index_Head ?_
  unfold S_index_Index_Head
  refine xE_alloc Z_64 fun w1 hb1 hk1 hz1 => ?_
  have hsl := h2.slT encH_len (by omega)
  obtain ⟨la, lc, rfl, hlc, _⟩ := h2.slice
  have h1' := h1.kept hk1 (by simp)
  refine xJoin_of (fun vs w' => vs = [.bool (decide (i < 0 ∨ (hs.length : Int) ≤ i))] ∧ w' = w1) ?_ ?_
  · simp only [xP_nil, xP_pick, xP_func, xP_not, xP_add, xP_sub, xP_mul, xP_lss, xP_leq, xP_gtr, xP_geq, xP_max2, xP_min2, xR_eql, xR_neq, Nat.zero_add, Nat.add_zero, Nat.reduceAdd, List.getD_cons_zero, List.getD_cons_succ, xIf_true, xIf_false, FA_40_0, FA_40_1, FA_64_0, FA_64_1, FA_64_2, FA_67_0, FA_67_1, FA_67_2, FA_67_3, FA_75_0, FA_75_1, FA_75_2, FA_75_3, FA_82_0, FA_82_1, FA_82_2, FA_96_0, FA_96_1, FA_96_2, FA_123_0, FA_123_1, FA_123_2, LEN_34, LEN_38, LEN_51, LEN_56, LEN_60, LEN_65, LEN_83, LEN_88, xIf_dec]
    refine ⟨fun hneg => ⟨by simp [hneg], trivial⟩, fun hpos => ?_⟩
    refine (ld1 ONE_51 h1'.cell).2 ?_
    try simp only [xP_nil, xP_pick, xP_func, xP_not, xP_add, xP_sub, xP_mul, xP_lss, xP_leq, xP_gtr, xP_geq, xP_max2, xP_min2, xR_eql, xR_neq, Nat.zero_add, Nat.add_zero, Nat.reduceAdd, List.getD_cons_zero, List.getD_cons_succ, xIf_true, xIf_false, FA_40_0, FA_40_1, FA_64_0, FA_64_1, FA_64_2, FA_67_0, FA_67_1, FA_67_2, FA_67_3, FA_75_0, FA_75_1, FA_75_2, FA_75_3, FA_82_0, FA_82_1, FA_82_2, FA_96_0, FA_96_1, FA_96_2, FA_123_0, FA_123_1, FA_123_2, LEN_34, LEN_38, LEN_51, LEN_56, LEN_60, LEN_65, LEN_83, LEN_88]
    refine ⟨?_, trivial⟩
    simp
    omega
  · rintro _ _ _ ⟨rfl, rfl⟩
    simp only [xP_nil, xP_pick, xP_func, xP_not, xP_add, xP_sub, xP_mul, xP_lss, xP_leq, xP_gtr, xP_geq, xP_max2, xP_min2, xR_eql, xR_neq, Nat.zero_add, Nat.add_zero, Nat.reduceAdd, List.getD_cons_zero, List.getD_cons_succ, xIf_true, xIf_false, FA_40_0, FA_40_1, FA_64_0, FA_64_1, FA_64_2, FA_67_0, FA_67_1, FA_67_2, FA_67_3, FA_75_0, FA_75_1, FA_75_2, FA_75_3, FA_82_0, FA_82_1, FA_82_2, FA_96_0, FA_96_1, FA_96_2, FA_123_0, FA_123_1, FA_123_2, LEN_34, LEN_38, LEN_51, LEN_56, LEN_60, LEN_65, LEN_83, LEN_88, xIf_dec]
    refine ⟨fun ho => ?_, fun hn => ?_⟩
    · refine (xP_build (cells := (encH zH).toArray) (by kernel_rfl)).2 ?_
      refine xE_storeN (l1 := []) (l2 := [.int .i64 0, .int .i64 0, .int .i64 0, .int .i64 0, .int .i64 0]) (l3 := []) SZ_64 hb1 rfl rfl rfl (head_cells zH) fun w2 hb2 hk2 hz2 => ?_
      refine (ldN (l := encH zH) AGG_64 (by simpa [Value.cells] using hb2.at)).2 ?_
      refine ⟨?_, hk1.trans hk2 (by simp) (by simp)⟩
      rw [if_neg (by omega)]
      rfl
    · refine (ld1 ONE_51 h1'.cell).2 ?_
      have hlt : i.toNat < hs.length := by omega
      obtain ⟨xa', xc, he, _, hr⟩ := hsl
      cases he
      obtain ⟨lb, lo, rfl, hat⟩ := hr.resolve_left (by intro h; rw [h] at hlt; simp at hlt)
      refine (xP_IA SL_51 SZ_64 (by omega) (by omega)).2 ?_
      have hel := at_elem encH_len (hat.kept hk1 (by simp)) (List.getElem?_eq_getElem hlt)
      refine (ldN (l := encH hs[i.toNat]) AGG_64 hel).2 ?_
      refine xE_storeN (l1 := []) (l2 := [.int .i64 0, .int .i64 0, .int .i64 0, .int .i64 0, .int .i64 0]) (l3 := []) SZ_64 hb1 rfl rfl rfl (head_cells _) fun w2 hb2 hk2 hz2 => ?_
      refine (ldN (l := encH hs[i.toNat]) AGG_64 (by simpa [Value.cells] using hb2.at)).2 ?_
      refine ⟨?_, hk1.trans hk2 (by simp) (by simp)⟩
      rw [if_pos (by omega)]
      simp [vH, hlt]

theorem FH0 {K : Value → Prop} {h : Hd} : xP Tryd.prog (sField 64 (vH h) 0) K ↔ K (.int .i64 h.base) := xP_field (show fieldOneB Tryd.prog 64 0 0 = true by kernel_rfl) rfl
theorem FH1 {K : Value → Prop} {h : Hd} : xP Tryd.prog (sField 64 (vH h) 1) K ↔ K (.int .i64 h.count) := xP_field (show fieldOneB Tryd.prog 64 1 1 = true by kernel_rfl) rfl

/-! ## Same; the document's own answers -/
theorem same_ok {w : World} {a b : Value} {xs ys : List Int} (ha : SlT w encI a xs) (hb : SlT w encI b ys) (hl : xs.length ≤ 9223372036854775806) :
    Gives Tryd.prog 27 #[a, b] w fun v w' => v = .bool (decide (xs = ys)) ∧ Kept [] w w' := by
  obtain ⟨aa, ac, rfl, hac, har⟩ := ha
  obtain ⟨ba, bc, rfl, hbc, hbr⟩ := hb
  refine C_stavebook_Same_int ?_
  unfold S_stavebook_Same_int
  simp only [xP_nil, xP_pick, xP_func, xP_not, xP_add, xP_sub, xP_mul, xP_lss, xP_leq, xP_gtr, xP_geq, xP_max2, xP_min2, xR_eql, xR_neq, Nat.zero_add, Nat.add_zero, Nat.reduceAdd, List.getD_cons_zero, List.getD_cons_succ, xIf_true, xIf_false, FA_40_0, FA_40_1, FA_64_0, FA_64_1, FA_64_2, FA_67_0, FA_67_1, FA_67_2, FA_67_3, FA_75_0, FA_75_1, FA_75_2, FA_75_3, FA_82_0, FA_82_1, FA_82_2, FA_96_0, FA_96_1, FA_96_2, FA_123_0, FA_123_1, FA_123_2, LEN_34, LEN_38, LEN_51, LEN_56, LEN_60, LEN_65, LEN_83, LEN_88, xIf_dec]
  refine ⟨fun hne => ⟨?_, Kept.refl _ _⟩, fun heq => ?_⟩
  · congr 1
    symm
    simp only [decide_eq_false_iff_not]
    intro h; subst h; exact hne rfl
  · have hle : xs.length = ys.length := by
      rcases Nat.lt_trichotomy xs.length ys.length with h | h | h
      · exact absurd (show ((xs.length : Nat) : Int) ≠ (ys.length : Nat) by omega) heq
      · exact h
      · exact absurd (show ((xs.length : Nat) : Int) ≠ (ys.length : Nat) by omega) heq
    refine xLoop_of (fun vs w' => ∃ i : Nat, vs = [.int .i64 i] ∧ i ≤ xs.length ∧ (∀ j, j < i → xs[j]? = ys[j]?) ∧ Kept [] w w') (fun vs _ => match vs with | [.int _ k] => xs.length - k.toNat | _ => 0) ⟨0, rfl, by omega, by omega, Kept.refl _ _⟩ ?_
    rintro _ _ w1 ⟨i, rfl, hi, hbef, hk⟩
    simp only [xP_nil, xP_pick, xP_func, xP_not, xP_add, xP_sub, xP_mul, xP_lss, xP_leq, xP_gtr, xP_geq, xP_max2, xP_min2, xR_eql, xR_neq, Nat.zero_add, Nat.add_zero, Nat.reduceAdd, List.getD_cons_zero, List.getD_cons_succ, xIf_true, xIf_false, FA_40_0, FA_40_1, FA_64_0, FA_64_1, FA_64_2, FA_67_0, FA_67_1, FA_67_2, FA_67_3, FA_75_0, FA_75_1, FA_75_2, FA_75_3, FA_82_0, FA_82_1, FA_82_2, FA_96_0, FA_96_1, FA_96_2, FA_123_0, FA_123_1, FA_123_2, LEN_34, LEN_38, LEN_51, LEN_56, LEN_60, LEN_65, LEN_83, LEN_88, xIf_dec]
    refine ⟨fun hlt => ?_, fun hge => ?_⟩
    · have hx : i < xs.length := by omega
      have hy : i < ys.length := by omega
      obtain ⟨xb, xo, rfl, hxa⟩ := har.resolve_left (by intro h; rw [h] at hx; simp at hx)
      obtain ⟨yb, yo, rfl, hya⟩ := hbr.resolve_left (by intro h; rw [h] at hy; simp at hy)
      refine (xP_IAn SL_56 SZ_3 hx).2 ?_
      refine (ld1 ONE_3 (at_one (at_drew ((at_elem encI_len hxa (List.getElem?_eq_getElem hx)).kept hk (by simp))))).2 ?_
      refine (xP_IAn SL_56 SZ_3 hy).2 ?_
      refine (ld1 ONE_3 (at_one (at_drew ((at_elem encI_len hya (List.getElem?_eq_getElem hy)).kept hk (by simp))))).2 ?_
      simp only [xP_nil, xP_pick, xP_func, xP_not, xP_add, xP_sub, xP_mul, xP_lss, xP_leq, xP_gtr, xP_geq, xP_max2, xP_min2, xR_eql, xR_neq, Nat.zero_add, Nat.add_zero, Nat.reduceAdd, List.getD_cons_zero, List.getD_cons_succ, xIf_true, xIf_false, FA_40_0, FA_40_1, FA_64_0, FA_64_1, FA_64_2, FA_67_0, FA_67_1, FA_67_2, FA_67_3, FA_75_0, FA_75_1, FA_75_2, FA_75_3, FA_82_0, FA_82_1, FA_82_2, FA_96_0, FA_96_1, FA_96_2, FA_123_0, FA_123_1, FA_123_2, LEN_34, LEN_38, LEN_51, LEN_56, LEN_60, LEN_65, LEN_83, LEN_88, xIf_dec]
      refine ⟨fun hne => ⟨?_, hk.drew⟩, fun he => ?_⟩
      · congr 1
        symm
        simp only [decide_eq_false_iff_not]
        intro h; subst h; exact hne rfl
      · rw [wrap64 (by omega) (by omega)]
        refine ⟨⟨i + 1, rfl, hx, fun j hj => ?_, hk.drew⟩, by omega⟩
        by_cases hji : j < i
        · exact hbef j hji
        · obtain rfl : j = i := by omega
          rw [List.getElem?_eq_getElem hx, List.getElem?_eq_getElem hy]
          simpa using he
    · refine ⟨?_, hk⟩
      congr 1
      symm
      simp only [decide_eq_true_eq]
      refine List.ext_getElem? (fun j => ?_)
      by_cases hj : j < i
      · exact hbef j hj
      · rw [List.getElem?_eq_none (by omega), List.getElem?_eq_none (by omega)]

theorem rwhen_ok {w : World} {v : Value} {hs : List Hd} {t : Int} (hsl : SlT w encH v hs) (hl : hs.length ≤ 9223372036854775806) :
    Gives Tryd.prog 42 #[v, .int .i64 t] w fun u w' => u = .int .i64 (hs.findIdx fun h => decide (t ≤ h.time) : Nat) ∧ Kept [] w w' := by
  obtain ⟨a, c, rfl, hc, hr⟩ := hsl
  refine C_staveref14_When ?_
  unfold S_staveref14_When
  try simp only [xP_nil, xP_pick, xP_func, xP_not, xP_add, xP_sub, xP_mul, xP_lss, xP_leq, xP_gtr, xP_geq, xP_max2, xP_min2, xR_eql, xR_neq, Nat.zero_add, Nat.add_zero, Nat.reduceAdd, List.getD_cons_zero, List.getD_cons_succ, xIf_true, xIf_false, FA_40_0, FA_40_1, FA_64_0, FA_64_1, FA_64_2, FA_67_0, FA_67_1, FA_67_2, FA_67_3, FA_75_0, FA_75_1, FA_75_2, FA_75_3, FA_82_0, FA_82_1, FA_82_2, FA_96_0, FA_96_1, FA_96_2, FA_123_0, FA_123_1, FA_123_2, LEN_34, LEN_38, LEN_51, LEN_56, LEN_60, LEN_65, LEN_83, LEN_88]
  refine xLoop_of (fun vs w' => ∃ k : Nat, vs = [.int .i64 k] ∧ k ≤ hs.length ∧ (∀ j, j < k → ∀ h, hs[j]? = some h → (fun h => decide (t ≤ h.time)) h = false) ∧ Kept [] w w') (fun vs _ => match vs with | [.int _ k] => hs.length - k.toNat | _ => 0) ⟨0, rfl, by omega, by omega, Kept.refl _ _⟩ ?_
  rintro _ _ w1 ⟨k, rfl, hk, hbefore, hkept⟩
  simp only [xP_nil, xP_pick, xP_func, xP_not, xP_add, xP_sub, xP_mul, xP_lss, xP_leq, xP_gtr, xP_geq, xP_max2, xP_min2, xR_eql, xR_neq, Nat.zero_add, Nat.add_zero, Nat.reduceAdd, List.getD_cons_zero, List.getD_cons_succ, xIf_true, xIf_false, FA_40_0, FA_40_1, FA_64_0, FA_64_1, FA_64_2, FA_67_0, FA_67_1, FA_67_2, FA_67_3, FA_75_0, FA_75_1, FA_75_2, FA_75_3, FA_82_0, FA_82_1, FA_82_2, FA_96_0, FA_96_1, FA_96_2, FA_123_0, FA_123_1, FA_123_2, LEN_34, LEN_38, LEN_51, LEN_56, LEN_60, LEN_65, LEN_83, LEN_88, xIf_dec]
  refine ⟨fun hlt => ?_, fun hge => ?_⟩
  · have hlt' : k < hs.length := by omega
    obtain ⟨mb, mo, rfl, hat⟩ := hr.resolve_left (by intro h; subst h; simp at hlt')
    refine (xP_IAn SL_51 SZ_64 hlt').2 ?_
    have he := at_elem encH_len (hat.kept hkept (by simp)) (List.getElem?_eq_getElem hlt')
    refine (ldN (l := encH hs[k]) AGG_64 he).2 ?_
    refine xE_alloc Z_64 fun w4 hb4 hk4 hz4 => ?_
    refine xE_storeN (l1 := []) (l2 := [.int .i64 0, .int .i64 0, .int .i64 0, .int .i64 0, .int .i64 0]) (l3 := []) SZ_64 hb4 rfl rfl rfl (head_cells hs[k]) fun w5 hb5 hk5 hz5 => ?_
    have hk35 : Kept [] w1 w5 := hk4.trans hk5 (by simp) (by simp)
    have hb5' : Blk w5 w1.heap.size 64 (encH hs[k]) := by simpa [Value.cells] using hb5
    try simp only [xP_nil, xP_pick, xP_func, xP_not, xP_add, xP_sub, xP_mul, xP_lss, xP_leq, xP_gtr, xP_geq, xP_max2, xP_min2, xR_eql, xR_neq, Nat.zero_add, Nat.add_zero, Nat.reduceAdd, List.getD_cons_zero, List.getD_cons_succ, xIf_true, xIf_false, FA_40_0, FA_40_1, FA_64_0, FA_64_1, FA_64_2, FA_67_0, FA_67_1, FA_67_2, FA_67_3, FA_75_0, FA_75_1, FA_75_2, FA_75_3, FA_82_0, FA_82_1, FA_82_2, FA_96_0, FA_96_1, FA_96_2, FA_123_0, FA_123_1, FA_123_2, LEN_34, LEN_38, LEN_51, LEN_56, LEN_60, LEN_65, LEN_83, LEN_88]
    refine (ld1 ONE_3 (hb5'.cell (o := 2))).2 ?_
    simp only [xP_nil, xP_pick, xP_func, xP_not, xP_add, xP_sub, xP_mul, xP_lss, xP_leq, xP_gtr, xP_geq, xP_max2, xP_min2, xR_eql, xR_neq, Nat.zero_add, Nat.add_zero, Nat.reduceAdd, List.getD_cons_zero, List.getD_cons_succ, xIf_true, xIf_false, FA_40_0, FA_40_1, FA_64_0, FA_64_1, FA_64_2, FA_67_0, FA_67_1, FA_67_2, FA_67_3, FA_75_0, FA_75_1, FA_75_2, FA_75_3, FA_82_0, FA_82_1, FA_82_2, FA_96_0, FA_96_1, FA_96_2, FA_123_0, FA_123_1, FA_123_2, LEN_34, LEN_38, LEN_51, LEN_56, LEN_60, LEN_65, LEN_83, LEN_88, xIf_dec]
    refine ⟨fun hp => ?_, fun hp => ?_⟩
    · have : hs.findIdx ((fun h => decide (t ≤ h.time))) = k := (List.findIdx_eq hlt').2 ⟨by simpa using hp, fun j hj => hbefore j hj _ (List.getElem?_eq_getElem (by omega))⟩
      refine ⟨?_, hkept.then hk35 (by simp)⟩
      rw [this]
    · rw [wrap64 (by omega) (by omega)]
      refine ⟨⟨k + 1, rfl, hlt', ?_, hkept.then hk35 (by simp)⟩, by omega⟩
      intro j hj h hh
      by_cases hjk : j < k
      · exact hbefore j hjk h hh
      · obtain rfl : j = k := by omega
        rw [List.getElem?_eq_getElem hlt'] at hh
        cases hh
        simpa using hp
  · have : hs.findIdx ((fun h => decide (t ≤ h.time))) = hs.length := List.findIdx_eq_length_of_false (fun h hm => by
      obtain ⟨j, hj, rfl⟩ := List.getElem_of_mem hm
      exact hbefore j (by omega) _ (List.getElem?_eq_getElem hj))
    refine ⟨?_, hkept⟩
    rw [this]
theorem rseek_ok {w : World} {v : Value} {hs : List Hd} {o : Int} (hsl : SlT w encH v hs) (hl : hs.length ≤ 9223372036854775806) (hw : ∀ h ∈ hs, IntKind.i64.wrap (o - h.base) = o - h.base) :
    Gives Tryd.prog 56 #[v, .int .i64 o] w fun u w' => u = .int .i64 (hs.findIdx (has o) : Nat) ∧ Kept [] w w' := by
  obtain ⟨a, c, rfl, hc, hr⟩ := hsl
  refine C_staveref14_Seek ?_
  unfold S_staveref14_Seek
  try simp only [xP_nil, xP_pick, xP_func, xP_not, xP_add, xP_sub, xP_mul, xP_lss, xP_leq, xP_gtr, xP_geq, xP_max2, xP_min2, xR_eql, xR_neq, Nat.zero_add, Nat.add_zero, Nat.reduceAdd, List.getD_cons_zero, List.getD_cons_succ, xIf_true, xIf_false, FA_40_0, FA_40_1, FA_64_0, FA_64_1, FA_64_2, FA_67_0, FA_67_1, FA_67_2, FA_67_3, FA_75_0, FA_75_1, FA_75_2, FA_75_3, FA_82_0, FA_82_1, FA_82_2, FA_96_0, FA_96_1, FA_96_2, FA_123_0, FA_123_1, FA_123_2, LEN_34, LEN_38, LEN_51, LEN_56, LEN_60, LEN_65, LEN_83, LEN_88]
  refine xLoop_of (fun vs w' => ∃ k : Nat, vs = [.int .i64 k] ∧ k ≤ hs.length ∧ (∀ j, j < k → ∀ h, hs[j]? = some h → has o h = false) ∧ Kept [] w w') (fun vs _ => match vs with | [.int _ k] => hs.length - k.toNat | _ => 0) ⟨0, rfl, by omega, by omega, Kept.refl _ _⟩ ?_
  rintro _ _ w1 ⟨k, rfl, hk, hbefore, hkept⟩
  simp only [xP_nil, xP_pick, xP_func, xP_not, xP_add, xP_sub, xP_mul, xP_lss, xP_leq, xP_gtr, xP_geq, xP_max2, xP_min2, xR_eql, xR_neq, Nat.zero_add, Nat.add_zero, Nat.reduceAdd, List.getD_cons_zero, List.getD_cons_succ, xIf_true, xIf_false, FA_40_0, FA_40_1, FA_64_0, FA_64_1, FA_64_2, FA_67_0, FA_67_1, FA_67_2, FA_67_3, FA_75_0, FA_75_1, FA_75_2, FA_75_3, FA_82_0, FA_82_1, FA_82_2, FA_96_0, FA_96_1, FA_96_2, FA_123_0, FA_123_1, FA_123_2, LEN_34, LEN_38, LEN_51, LEN_56, LEN_60, LEN_65, LEN_83, LEN_88, xIf_dec]
  refine ⟨fun hlt => ?_, fun hge => ?_⟩
  · have hlt' : k < hs.length := by omega
    obtain ⟨mb, mo, rfl, hat⟩ := hr.resolve_left (by intro h; subst h; simp at hlt')
    refine (xP_IAn SL_51 SZ_64 hlt').2 ?_
    have he := at_elem encH_len (hat.kept hkept (by simp)) (List.getElem?_eq_getElem hlt')
    refine (ldN (l := encH hs[k]) AGG_64 he).2 ?_
    refine xE_alloc Z_64 fun w4 hb4 hk4 hz4 => ?_
    refine xE_storeN (l1 := []) (l2 := [.int .i64 0, .int .i64 0, .int .i64 0, .int .i64 0, .int .i64 0]) (l3 := []) SZ_64 hb4 rfl rfl rfl (head_cells hs[k]) fun w5 hb5 hk5 hz5 => ?_
    have hk35 : Kept [] w1 w5 := hk4.trans hk5 (by simp) (by simp)
    have hb5' : Blk w5 w1.heap.size 64 (encH hs[k]) := by simpa [Value.cells] using hb5
    try simp only [xP_nil, xP_pick, xP_func, xP_not, xP_add, xP_sub, xP_mul, xP_lss, xP_leq, xP_gtr, xP_geq, xP_max2, xP_min2, xR_eql, xR_neq, Nat.zero_add, Nat.add_zero, Nat.reduceAdd, List.getD_cons_zero, List.getD_cons_succ, xIf_true, xIf_false, FA_40_0, FA_40_1, FA_64_0, FA_64_1, FA_64_2, FA_67_0, FA_67_1, FA_67_2, FA_67_3, FA_75_0, FA_75_1, FA_75_2, FA_75_3, FA_82_0, FA_82_1, FA_82_2, FA_96_0, FA_96_1, FA_96_2, FA_123_0, FA_123_1, FA_123_2, LEN_34, LEN_38, LEN_51, LEN_56, LEN_60, LEN_65, LEN_83, LEN_88]
    refine (ld1 ONE_3 (hb5'.cell (o := 0))).2 ?_
    try simp only [xP_nil, xP_pick, xP_func, xP_not, xP_add, xP_sub, xP_mul, xP_lss, xP_leq, xP_gtr, xP_geq, xP_max2, xP_min2, xR_eql, xR_neq, Nat.zero_add, Nat.add_zero, Nat.reduceAdd, List.getD_cons_zero, List.getD_cons_succ, xIf_true, xIf_false, FA_40_0, FA_40_1, FA_64_0, FA_64_1, FA_64_2, FA_67_0, FA_67_1, FA_67_2, FA_67_3, FA_75_0, FA_75_1, FA_75_2, FA_75_3, FA_82_0, FA_82_1, FA_82_2, FA_96_0, FA_96_1, FA_96_2, FA_123_0, FA_123_1, FA_123_2, LEN_34, LEN_38, LEN_51, LEN_56, LEN_60, LEN_65, LEN_83, LEN_88]
    refine (ld1 ONE_3 (hb5'.cell (o := 1))).2 ?_
    rw [hw _ (List.getElem_mem hlt')]
    simp only [xP_nil, xP_pick, xP_func, xP_not, xP_add, xP_sub, xP_mul, xP_lss, xP_leq, xP_gtr, xP_geq, xP_max2, xP_min2, xR_eql, xR_neq, Nat.zero_add, Nat.add_zero, Nat.reduceAdd, List.getD_cons_zero, List.getD_cons_succ, xIf_true, xIf_false, FA_40_0, FA_40_1, FA_64_0, FA_64_1, FA_64_2, FA_67_0, FA_67_1, FA_67_2, FA_67_3, FA_75_0, FA_75_1, FA_75_2, FA_75_3, FA_82_0, FA_82_1, FA_82_2, FA_96_0, FA_96_1, FA_96_2, FA_123_0, FA_123_1, FA_123_2, LEN_34, LEN_38, LEN_51, LEN_56, LEN_60, LEN_65, LEN_83, LEN_88, xIf_dec]
    refine ⟨fun hp => ?_, fun hp => ?_⟩
    · have : hs.findIdx (has o) = k := (List.findIdx_eq hlt').2 ⟨by simpa [has] using hp, fun j hj => hbefore j hj _ (List.getElem?_eq_getElem (by omega))⟩
      refine ⟨?_, hkept.then hk35 (by simp)⟩
      rw [this]
    · rw [wrap64 (by omega) (by omega)]
      refine ⟨⟨k + 1, rfl, hlt', ?_, hkept.then hk35 (by simp)⟩, by omega⟩
      intro j hj h hh
      by_cases hjk : j < k
      · exact hbefore j hjk h hh
      · obtain rfl : j = k := by omega
        rw [List.getElem?_eq_getElem hlt'] at hh
        cases hh
        simpa [has] using hp
  · have : hs.findIdx (has o) = hs.length := List.findIdx_eq_length_of_false (fun h hm => by
      obtain ⟨j, hj, rfl⟩ := List.getElem_of_mem hm
      exact hbefore j (by omega) _ (List.getElem?_eq_getElem hj))
    refine ⟨?_, hkept⟩
    rw [this]
end Go.Proofs.YtjajjblppogfoaaDoor
