import Derived.Test.YtjajjblppogfoaaDoorXpSem
namespace Go.Proofs.YtjajjblppogfoaaDoor
set_option linter.unusedSimpArgs false
set_option linter.unusedVariables false
set_option maxRecDepth 100000
attribute [local irreducible] Go.X.xE
open Go Go.X

structure Hd where
  base : Int
  count : Int
  time : Int
  stripe : Int
  entry : Int
deriving DecidableEq
def encH (h : Hd) : List Value := [.int .i64 h.base, .int .i64 h.count, .int .i64 h.time, .int .i64 h.stripe, .int .i64 h.entry]
theorem encH_len (h : Hd) : (encH h).length = 5 := rfl
def vH (h : Hd) : Value := .agg (encH h).toArray

theorem when1_ok {h : Hd} {b : Nat} {t : Int} {w : World} (hb : Blk w b 3 [.int .i64 t]) :
    Gives Tryd.prog 66 #[vH h, .pointer (some ⟨b, 0, none⟩)] w fun v w' => v = .bool (decide (t ≤ h.time)) ∧ Kept [] w w' := by
  refine C_index_Index_Whenx1 ?_
  unfold S_index_Index_Whenx1 vH encH
  refine xE_box fun w1 hb1 hk hs => ?_
  try simp only [xP_nil, xP_pick, xP_func, xP_not, xP_add, xP_sub, xP_mul, xP_lss, xP_leq, xP_gtr, xP_geq, xP_max2, xP_min2, xR_eql, xR_neq, Nat.zero_add, Nat.add_zero, Nat.reduceAdd, List.getD_cons_zero, List.getD_cons_succ, xIf_true, xIf_false, FA_40_0, FA_40_1, FA_64_0, FA_64_1, FA_64_2, FA_67_0, FA_67_1, FA_67_2, FA_67_3, FA_75_0, FA_75_1, FA_75_2, FA_75_3, FA_82_0, FA_82_1, FA_82_2, FA_96_0, FA_96_1, FA_96_2, FA_123_0, FA_123_1, FA_123_2, LEN_34, LEN_38, LEN_51, LEN_56, LEN_60, LEN_65, LEN_83, LEN_88]
  refine (ld1 ONE_3 hb1.cell).2 ?_
  refine (ld1 ONE_3 (hb.kept hk (by simp)).cell).2 ?_
  try simp only [xP_nil, xP_pick, xP_func, xP_not, xP_add, xP_sub, xP_mul, xP_lss, xP_leq, xP_gtr, xP_geq, xP_max2, xP_min2, xR_eql, xR_neq, Nat.zero_add, Nat.add_zero, Nat.reduceAdd, List.getD_cons_zero, List.getD_cons_succ, xIf_true, xIf_false, FA_40_0, FA_40_1, FA_64_0, FA_64_1, FA_64_2, FA_67_0, FA_67_1, FA_67_2, FA_67_3, FA_75_0, FA_75_1, FA_75_2, FA_75_3, FA_82_0, FA_82_1, FA_82_2, FA_96_0, FA_96_1, FA_96_2, FA_123_0, FA_123_1, FA_123_2, LEN_34, LEN_38, LEN_51, LEN_56, LEN_60, LEN_65, LEN_83, LEN_88]
  exact ⟨rfl, hk⟩

theorem seek2_ok {h : Hd} {b : Nat} {o : Int} {w : World} (hb : Blk w b 3 [.int .i64 o]) :
    Gives Tryd.prog 65 #[vH h, .pointer (some ⟨b, 0, none⟩)] w fun v w' => v = .bool (decide (IntKind.i64.wrap (o - h.base) < h.count)) ∧ Kept [] w w' := by
  refine C_index_Index_Seekx2 ?_
  unfold S_index_Index_Seekx2 vH encH
  refine xE_box fun w1 hb1 hk hs => ?_
  try simp only [xP_nil, xP_pick, xP_func, xP_not, xP_add, xP_sub, xP_mul, xP_lss, xP_leq, xP_gtr, xP_geq, xP_max2, xP_min2, xR_eql, xR_neq, Nat.zero_add, Nat.add_zero, Nat.reduceAdd, List.getD_cons_zero, List.getD_cons_succ, xIf_true, xIf_false, FA_40_0, FA_40_1, FA_64_0, FA_64_1, FA_64_2, FA_67_0, FA_67_1, FA_67_2, FA_67_3, FA_75_0, FA_75_1, FA_75_2, FA_75_3, FA_82_0, FA_82_1, FA_82_2, FA_96_0, FA_96_1, FA_96_2, FA_123_0, FA_123_1, FA_123_2, LEN_34, LEN_38, LEN_51, LEN_56, LEN_60, LEN_65, LEN_83, LEN_88]
  refine (ld1 ONE_3 (hb.kept hk (by simp)).cell).2 ?_
  refine (ld1 ONE_3 hb1.cell).2 ?_
  try simp only [xP_nil, xP_pick, xP_func, xP_not, xP_add, xP_sub, xP_mul, xP_lss, xP_leq, xP_gtr, xP_geq, xP_max2, xP_min2, xR_eql, xR_neq, Nat.zero_add, Nat.add_zero, Nat.reduceAdd, List.getD_cons_zero, List.getD_cons_succ, xIf_true, xIf_false, FA_40_0, FA_40_1, FA_64_0, FA_64_1, FA_64_2, FA_67_0, FA_67_1, FA_67_2, FA_67_3, FA_75_0, FA_75_1, FA_75_2, FA_75_3, FA_82_0, FA_82_1, FA_82_2, FA_96_0, FA_96_1, FA_96_2, FA_123_0, FA_123_1, FA_123_2, LEN_34, LEN_38, LEN_51, LEN_56, LEN_60, LEN_65, LEN_83, LEN_88]
  refine (ld1 ONE_3 hb1.cell).2 ?_
  try simp only [xP_nil, xP_pick, xP_func, xP_not, xP_add, xP_sub, xP_mul, xP_lss, xP_leq, xP_gtr, xP_geq, xP_max2, xP_min2, xR_eql, xR_neq, Nat.zero_add, Nat.add_zero, Nat.reduceAdd, List.getD_cons_zero, List.getD_cons_succ, xIf_true, xIf_false, FA_40_0, FA_40_1, FA_64_0, FA_64_1, FA_64_2, FA_67_0, FA_67_1, FA_67_2, FA_67_3, FA_75_0, FA_75_1, FA_75_2, FA_75_3, FA_82_0, FA_82_1, FA_82_2, FA_96_0, FA_96_1, FA_96_2, FA_123_0, FA_123_1, FA_123_2, LEN_34, LEN_38, LEN_51, LEN_56, LEN_60, LEN_65, LEN_83, LEN_88]
  exact ⟨rfl, hk⟩

theorem seek1_ok {i : Nat} {x b1 b2 : Nat} {o every : Int} {lv mv : Value} {ms : List Int} {w : World} (hx : Blk w b1 93 [.pointer (some ⟨x, 0, none⟩)]) (ho : Blk w b2 3 [.int .i64 o])
    (hb : Blk w x 123 [.int .i64 every, lv, mv]) (hm : SlT w encI mv ms) (hi : i < ms.length) :
    Gives Tryd.prog 63 #[.int .i64 i, .pointer (some ⟨b1, 0, none⟩), .pointer (some ⟨b2, 0, none⟩)] w fun v w' => v = .bool (decide (o < ms[i])) ∧ Kept [] w w' := by
  obtain ⟨a, c, rfl, hc, hr⟩ := hm
  obtain ⟨mb, mo, rfl, hat⟩ := hr.resolve_left (by intro h; subst h; simp at hi)
  refine C_index_Index_Seekx1 ?_
  unfold S_index_Index_Seekx1
  refine (ld1 ONE_93 (blk_drew hx).cell).2 ?_
  try simp only [xP_nil, xP_pick, xP_func, xP_not, xP_add, xP_sub, xP_mul, xP_lss, xP_leq, xP_gtr, xP_geq, xP_max2, xP_min2, xR_eql, xR_neq, Nat.zero_add, Nat.add_zero, Nat.reduceAdd, List.getD_cons_zero, List.getD_cons_succ, xIf_true, xIf_false, FA_40_0, FA_40_1, FA_64_0, FA_64_1, FA_64_2, FA_67_0, FA_67_1, FA_67_2, FA_67_3, FA_75_0, FA_75_1, FA_75_2, FA_75_3, FA_82_0, FA_82_1, FA_82_2, FA_96_0, FA_96_1, FA_96_2, FA_123_0, FA_123_1, FA_123_2, LEN_34, LEN_38, LEN_51, LEN_56, LEN_60, LEN_65, LEN_83, LEN_88]
  refine (ld1 ONE_56 (blk_drew hb).cell).2 ?_
  refine (xP_IAn SL_56 SZ_3 hi).2 ?_
  have he := at_elem encI_len hat (List.getElem?_eq_getElem hi)
  refine (ld1 ONE_3 (at_one (at_drew he))).2 ?_
  refine (ld1 ONE_3 (blk_drew ho).cell).2 ?_
  try simp only [xP_nil, xP_pick, xP_func, xP_not, xP_add, xP_sub, xP_mul, xP_lss, xP_leq, xP_gtr, xP_geq, xP_max2, xP_min2, xR_eql, xR_neq, Nat.zero_add, Nat.add_zero, Nat.reduceAdd, List.getD_cons_zero, List.getD_cons_succ, xIf_true, xIf_false, FA_40_0, FA_40_1, FA_64_0, FA_64_1, FA_64_2, FA_67_0, FA_67_1, FA_67_2, FA_67_3, FA_75_0, FA_75_1, FA_75_2, FA_75_3, FA_82_0, FA_82_1, FA_82_2, FA_96_0, FA_96_1, FA_96_2, FA_123_0, FA_123_1, FA_123_2, LEN_34, LEN_38, LEN_51, LEN_56, LEN_60, LEN_65, LEN_83, LEN_88]
  exact ⟨rfl, kept_drew _ _⟩

theorem indexFunc_ok {g : Nat} {cap : Array Value} {p : Hd → Bool} {hs : List Hd} {v : Value} {w : World} (hg : calleeB Tryd.prog g = true) (hsl : SlT w encH v hs) (hlen : hs.length ≤ 9223372036854775806)
    (hcall : ∀ h ∈ hs, ∀ w', Kept [] w w' → Gives Tryd.prog g (#[] ++ #[vH h] ++ cap) w' fun u w'' => u = .bool (p h) ∧ Kept [] w' w'') :
    Gives Tryd.prog 69 #[v, .func (.func g) #[] cap] w fun u w' => u = .int .i64 (if hs.findIdx p < hs.length then (hs.findIdx p : Int) else -1) ∧ Kept [] w w' := by
  obtain ⟨a, c, rfl, hc, hr⟩ := hsl
  refine C_slices_IndexFunc_api_Head ?_
  unfold S_slices_IndexFunc_api_Head
  try simp only [xP_nil, xP_pick, xP_func, xP_not, xP_add, xP_sub, xP_mul, xP_lss, xP_leq, xP_gtr, xP_geq, xP_max2, xP_min2, xR_eql, xR_neq, Nat.zero_add, Nat.add_zero, Nat.reduceAdd, List.getD_cons_zero, List.getD_cons_succ, xIf_true, xIf_false, FA_40_0, FA_40_1, FA_64_0, FA_64_1, FA_64_2, FA_67_0, FA_67_1, FA_67_2, FA_67_3, FA_75_0, FA_75_1, FA_75_2, FA_75_3, FA_82_0, FA_82_1, FA_82_2, FA_96_0, FA_96_1, FA_96_2, FA_123_0, FA_123_1, FA_123_2, LEN_34, LEN_38, LEN_51, LEN_56, LEN_60, LEN_65, LEN_83, LEN_88]
  refine xLoop_of (fun vs w' => ∃ k : Nat, vs = [.int .i64 k] ∧ k ≤ hs.length ∧ (∀ j, j < k → ∀ h, hs[j]? = some h → p h = false) ∧ Kept [] w w') (fun vs _ => match vs with | [.int _ k] => hs.length - k.toNat | _ => 0) ⟨0, rfl, by omega, by omega, Kept.refl _ _⟩ ?_
  rintro _ _ w1 ⟨k, rfl, hk, hbefore, hkept⟩
  simp only [xP_nil, xP_pick, xP_func, xP_not, xP_add, xP_sub, xP_mul, xP_lss, xP_leq, xP_gtr, xP_geq, xP_max2, xP_min2, xR_eql, xR_neq, Nat.zero_add, Nat.add_zero, Nat.reduceAdd, List.getD_cons_zero, List.getD_cons_succ, xIf_true, xIf_false, FA_40_0, FA_40_1, FA_64_0, FA_64_1, FA_64_2, FA_67_0, FA_67_1, FA_67_2, FA_67_3, FA_75_0, FA_75_1, FA_75_2, FA_75_3, FA_82_0, FA_82_1, FA_82_2, FA_96_0, FA_96_1, FA_96_2, FA_123_0, FA_123_1, FA_123_2, LEN_34, LEN_38, LEN_51, LEN_56, LEN_60, LEN_65, LEN_83, LEN_88, xIf_dec]
  refine ⟨fun hlt => ?_, fun hge => ?_⟩
  · have hlt' : k < hs.length := by omega
    obtain ⟨mb, mo, rfl, hat⟩ := hr.resolve_left (by intro h; subst h; simp at hlt')
    refine (xP_IAn SL_51 SZ_64 hlt').2 ?_
    have he := at_elem encH_len (hat.kept hkept (by simp)) (List.getElem?_eq_getElem hlt')
    refine (ldN AGG_64 he).2 ?_
    refine xE_callV hg (hcall hs[k] (List.getElem_mem hlt') w1 hkept) ?_
    rintro _ w2 ⟨rfl, hk2⟩
    have hk3 : Kept [] w w2 := hkept.then hk2 (by simp)
    simp only [xIf_bool]
    refine ⟨fun hp => ?_, fun hp => ?_⟩
    · have : hs.findIdx p = k := (List.findIdx_eq hlt').2 ⟨hp, fun j hj => hbefore j hj _ (List.getElem?_eq_getElem (by omega))⟩
      refine ⟨?_, hk3⟩
      rw [this, if_pos hlt']
    · refine ⟨⟨k + 1, ?_, hlt', ?_, hk3⟩, ?_⟩
      · rw [wrap64 (by omega) (by omega)]; rfl
      · intro j hj h hh
        by_cases hjk : j < k
        · exact hbefore j hjk h hh
        · obtain rfl : j = k := by omega
          rw [List.getElem?_eq_getElem hlt'] at hh
          cases hh
          exact hp
      · rw [wrap64 (by omega) (by omega)]
        omega
  · have : hs.findIdx p = hs.length := List.findIdx_eq_length_of_false (fun h hm => by
      obtain ⟨j, hj, rfl⟩ := List.getElem_of_mem hm
      exact hbefore j (by omega) _ (List.getElem?_eq_getElem hj))
    refine ⟨?_, hkept⟩
    rw [this, if_neg (by omega)]

theorem SlT_from {α : Type} {w : World} {enc : α → List Value} {a : Option Addr} {c k sz : Nat} {l : List α} (hsz : ∀ x, (enc x).length = sz) (h : SlT w enc (.slice a l.length c) l) (hk : k ≤ l.length) :
    SlT w enc (.slice (if c = k then a else a.map (·.add (k * sz))) (l.length - k) (c - k)) (l.drop k) := by
  obtain ⟨a', c', hv, hc, hr⟩ := h
  cases hv
  refine ⟨_, c - k, by rw [List.length_drop], by rw [List.length_drop]; omega, ?_⟩
  by_cases hl : l.drop k = []
  · exact .inl hl
  · right
    have hlt : k < l.length := by
      rcases Nat.lt_or_ge k l.length with h | h
      · exact h
      · exact absurd (List.drop_eq_nil_of_le h) hl
    obtain ⟨b, o, rfl, hat⟩ := hr.resolve_left (by intro h; subst h; simp at hlt)
    refine ⟨b, o + k * sz, by rw [if_neg (by omega)]; simp [add_none], ?_⟩
    rw [← flat_drop hsz]
    exact hat.drop _

theorem first_ok {g : Nat} {cap : Array Value} {p : Hd → Bool} {hs : List Hd} {b from_ : Nat} {ev lv mv : Value} {w : World} (hg : calleeB Tryd.prog g = true)
    (hb : Blk w b 123 [ev, lv, mv]) (hsl : SlT w encH lv hs) (hlen : hs.length ≤ 9223372036854775806) (hf : from_ ≤ hs.length)
    (hcall : ∀ h ∈ hs, ∀ w', Kept [] w w' → Gives Tryd.prog g (#[] ++ #[vH h] ++ cap) w' fun u w'' => u = .bool (p h) ∧ Kept [] w' w'') :
    Gives Tryd.prog 64 #[.pointer (some ⟨b, 0, none⟩), .int .i64 from_, .func (.func g) #[] cap] w fun u w' => u = .int .i64 (from_ + (hs.drop from_).findIdx p : Nat) ∧ Kept [] w w' := by
  refine C_index_Index_first ?_
  unfold S_index_Index_first
  try simp only [xP_nil, xP_pick, xP_func, xP_not, xP_add, xP_sub, xP_mul, xP_lss, xP_leq, xP_gtr, xP_geq, xP_max2, xP_min2, xR_eql, xR_neq, Nat.zero_add, Nat.add_zero, Nat.reduceAdd, List.getD_cons_zero, List.getD_cons_succ, xIf_true, xIf_false, FA_40_0, FA_40_1, FA_64_0, FA_64_1, FA_64_2, FA_67_0, FA_67_1, FA_67_2, FA_67_3, FA_75_0, FA_75_1, FA_75_2, FA_75_3, FA_82_0, FA_82_1, FA_82_2, FA_96_0, FA_96_1, FA_96_2, FA_123_0, FA_123_1, FA_123_2, LEN_34, LEN_38, LEN_51, LEN_56, LEN_60, LEN_65, LEN_83, LEN_88]
  refine (ld1 ONE_51 hb.cell).2 ?_
  have hsl' := hsl
  obtain ⟨a, c, rfl, hc, hr⟩ := hsl
  refine (xP_from SL_51 SZ_64 (by omega) (by omega)).2 ?_
  rw [Int.toNat_natCast]
  have hd := SlT_from (k := from_) encH_len hsl' hf
  refine xE_call CF_69 (indexFunc_ok hg hd (by rw [List.length_drop]; omega) (fun h hm w' hk => hcall h (List.mem_of_mem_drop hm) w' hk)) ?_
  rintro _ w1 ⟨rfl, hk⟩
  simp only [xP_lss, xIf_dec]
  have hle := List.findIdx_le_length (p := p) (xs := hs.drop from_)
  rw [List.length_drop] at hle
  refine ⟨fun hneg => ?_, fun hpos => ?_⟩
  · try simp only [xP_nil, xP_pick, xP_func, xP_not, xP_add, xP_sub, xP_mul, xP_lss, xP_leq, xP_gtr, xP_geq, xP_max2, xP_min2, xR_eql, xR_neq, Nat.zero_add, Nat.add_zero, Nat.reduceAdd, List.getD_cons_zero, List.getD_cons_succ, xIf_true, xIf_false, FA_40_0, FA_40_1, FA_64_0, FA_64_1, FA_64_2, FA_67_0, FA_67_1, FA_67_2, FA_67_3, FA_75_0, FA_75_1, FA_75_2, FA_75_3, FA_82_0, FA_82_1, FA_82_2, FA_96_0, FA_96_1, FA_96_2, FA_123_0, FA_123_1, FA_123_2, LEN_34, LEN_38, LEN_51, LEN_56, LEN_60, LEN_65, LEN_83, LEN_88]
    refine (ld1 ONE_51 (hb.kept hk (by simp)).cell).2 ?_
    try simp only [xP_nil, xP_pick, xP_func, xP_not, xP_add, xP_sub, xP_mul, xP_lss, xP_leq, xP_gtr, xP_geq, xP_max2, xP_min2, xR_eql, xR_neq, Nat.zero_add, Nat.add_zero, Nat.reduceAdd, List.getD_cons_zero, List.getD_cons_succ, xIf_true, xIf_false, FA_40_0, FA_40_1, FA_64_0, FA_64_1, FA_64_2, FA_67_0, FA_67_1, FA_67_2, FA_67_3, FA_75_0, FA_75_1, FA_75_2, FA_75_3, FA_82_0, FA_82_1, FA_82_2, FA_96_0, FA_96_1, FA_96_2, FA_123_0, FA_123_1, FA_123_2, LEN_34, LEN_38, LEN_51, LEN_56, LEN_60, LEN_65, LEN_83, LEN_88]
    refine ⟨?_, hk⟩
    congr 1
    rw [List.length_drop] at hneg
    split at hneg <;> omega
  · try simp only [xP_nil, xP_pick, xP_func, xP_not, xP_add, xP_sub, xP_mul, xP_lss, xP_leq, xP_gtr, xP_geq, xP_max2, xP_min2, xR_eql, xR_neq, Nat.zero_add, Nat.add_zero, Nat.reduceAdd, List.getD_cons_zero, List.getD_cons_succ, xIf_true, xIf_false, FA_40_0, FA_40_1, FA_64_0, FA_64_1, FA_64_2, FA_67_0, FA_67_1, FA_67_2, FA_67_3, FA_75_0, FA_75_1, FA_75_2, FA_75_3, FA_82_0, FA_82_1, FA_82_2, FA_96_0, FA_96_1, FA_96_2, FA_123_0, FA_123_1, FA_123_2, LEN_34, LEN_38, LEN_51, LEN_56, LEN_60, LEN_65, LEN_83, LEN_88]
    refine ⟨?_, hk⟩
    rw [List.length_drop] at hpos ⊢
    split at hpos
    · rw [if_pos (by assumption), wrap64 (by omega) (by omega)]
      rfl
    · omega

/-! ## The index as plain data -/
def Ix (w : World) (b every : Nat) (hs : List Hd) (F : List Nat) : Prop :=
  ∃ lv mv ms Fl Fm, Blk w b 123 [.int .i64 every, lv, mv] ∧ Own w 64 5 lv hs.length (hs.flatMap encH) Fl ∧ Own w 3 1 mv (ms : List Int).length (ms.flatMap encI) Fm ∧
    (∀ i : Nat, ms[i]? = (hs[i * every]?).map Hd.base) ∧ 1 ≤ every ∧ every ≤ 9223372036854775807 ∧ b ∉ Fl ∧ b ∉ Fm ∧ (∀ g ∈ Fl, g ∉ Fm) ∧ F = b :: Fl ++ Fm

theorem Ix.kept {w w' : World} {b every : Nat} {hs : List Hd} {F M : List Nat} (h : Ix w b every hs F) (hk : Kept M w w') (hd : ∀ g ∈ F, g ∉ M) : Ix w' b every hs F := by
  obtain ⟨lv, mv, ms, Fl, Fm, h1, h2, h3, h4, h5, h6, h7, h8, h9, rfl⟩ := h
  exact ⟨lv, mv, ms, Fl, Fm, h1.kept hk (hd b (by simp)), h2.kept hk (fun g hg => hd g (by simp [hg])), h3.kept hk (fun g hg => hd g (by simp [hg])), h4, h5, h6, h7, h8, h9, rfl⟩
theorem Ix.lt {w : World} {b every : Nat} {hs : List Hd} {F : List Nat} (h : Ix w b every hs F) : ∀ g ∈ F, g < w.heap.size := by
  obtain ⟨lv, mv, ms, Fl, Fm, h1, h2, h3, h4, h5, h6, h7, h8, h9, rfl⟩ := h
  intro g hg
  simp only [List.cons_append, List.mem_cons, List.mem_append] at hg
  rcases hg with rfl | hg | hg
  · exact h1.lt
  · exact h2.lt g hg
  · exact h3.lt g hg

theorem new_ok {n : Int} {w : World} (h1 : -9223372036854775808 ≤ n) (h2 : n ≤ 9223372036854775807) :
    Gives Tryd.prog 47 #[.int .i64 n] w fun v w' => v = .pointer (some ⟨w.heap.size, 0, none⟩) ∧ Ix w' w.heap.size (max n 1).toNat [] [w.heap.size] ∧ Kept [] w w' ∧ w'.heap.size = w.heap.size + 1 := by
  refine C_index_New ?_
  unfold S_index_New
  try simp only [xP_nil, xP_pick, xP_func, xP_not, xP_add, xP_sub, xP_mul, xP_lss, xP_leq, xP_gtr, xP_geq, xP_max2, xP_min2, xR_eql, xR_neq, Nat.zero_add, Nat.add_zero, Nat.reduceAdd, List.getD_cons_zero, List.getD_cons_succ, xIf_true, xIf_false, FA_40_0, FA_40_1, FA_64_0, FA_64_1, FA_64_2, FA_67_0, FA_67_1, FA_67_2, FA_67_3, FA_75_0, FA_75_1, FA_75_2, FA_75_3, FA_82_0, FA_82_1, FA_82_2, FA_96_0, FA_96_1, FA_96_2, FA_123_0, FA_123_1, FA_123_2, LEN_34, LEN_38, LEN_51, LEN_56, LEN_60, LEN_65, LEN_83, LEN_88]
  refine (xP_build (cells := #[.int .i64 (max n 1), .slice none 0 0, .slice none 0 0]) (by kernel_rfl)).2 ?_
  refine xE_box fun w1 hb hk hs => ?_
  refine ⟨rfl, ⟨.slice none 0 0, .slice none 0 0, [], [], [], ?_, own_nil _ _ _, own_nil _ _ _, by simp, by omega, by omega, by simp, by simp, by simp, rfl⟩, hk, hs⟩
  have : ((max n 1).toNat : Int) = max n 1 := by omega
  rw [this]
  exact hb

theorem len_ok {w : World} {b every : Nat} {hs : List Hd} {F : List Nat} (h : Ix w b every hs F) :
    Gives Tryd.prog 51 #[.pointer (some ⟨b, 0, none⟩)] w fun v w' => v = .int .i64 hs.length ∧ Kept [] w w' := by
  obtain ⟨lv, mv, ms, Fl, Fm, h1, h2, h3, h4, h5, h6, h7, h8, h9, rfl⟩ := h
  refine C_index_Index_Len ?_
  unfold S_index_Index_Len
  try simp only [xP_nil, xP_pick, xP_func, xP_not, xP_add, xP_sub, xP_mul, xP_lss, xP_leq, xP_gtr, xP_geq, xP_max2, xP_min2, xR_eql, xR_neq, Nat.zero_add, Nat.add_zero, Nat.reduceAdd, List.getD_cons_zero, List.getD_cons_succ, xIf_true, xIf_false, FA_40_0, FA_40_1, FA_64_0, FA_64_1, FA_64_2, FA_67_0, FA_67_1, FA_67_2, FA_67_3, FA_75_0, FA_75_1, FA_75_2, FA_75_3, FA_82_0, FA_82_1, FA_82_2, FA_96_0, FA_96_1, FA_96_2, FA_123_0, FA_123_1, FA_123_2, LEN_34, LEN_38, LEN_51, LEN_56, LEN_60, LEN_65, LEN_83, LEN_88]
  refine (ld1 ONE_51 h1.cell).2 ?_
  obtain ⟨a, c, rfl, _⟩ := h2.slice
  try simp only [xP_nil, xP_pick, xP_func, xP_not, xP_add, xP_sub, xP_mul, xP_lss, xP_leq, xP_gtr, xP_geq, xP_max2, xP_min2, xR_eql, xR_neq, Nat.zero_add, Nat.add_zero, Nat.reduceAdd, List.getD_cons_zero, List.getD_cons_succ, xIf_true, xIf_false, FA_40_0, FA_40_1, FA_64_0, FA_64_1, FA_64_2, FA_67_0, FA_67_1, FA_67_2, FA_67_3, FA_75_0, FA_75_1, FA_75_2, FA_75_3, FA_82_0, FA_82_1, FA_82_2, FA_96_0, FA_96_1, FA_96_2, FA_123_0, FA_123_1, FA_123_2, LEN_34, LEN_38, LEN_51, LEN_56, LEN_60, LEN_65, LEN_83, LEN_88]
  exact ⟨rfl, Kept.refl _ _⟩

theorem when_ok {t : Int} {w : World} {b every : Nat} {hs : List Hd} {F : List Nat} (h : Ix w b every hs F) (hlen : hs.length ≤ 9223372036854775806) :
    Gives Tryd.prog 54 #[.pointer (some ⟨b, 0, none⟩), .int .i64 t] w fun v w' => v = .int .i64 (hs.findIdx fun h => decide (t ≤ h.time) : Nat) ∧ Kept [] w w' := by
  obtain ⟨lv, mv, ms, Fl, Fm, h1, h2, h3, h4, h5, h6, h7, h8, h9, rfl⟩ := h
  refine C_index_Index_When ?_
  unfold S_index_Index_When
  refine xE_box fun w1 hb1 hk hs1 => ?_
  try simp only [xP_nil, xP_pick, xP_func, xP_not, xP_add, xP_sub, xP_mul, xP_lss, xP_leq, xP_gtr, xP_geq, xP_max2, xP_min2, xR_eql, xR_neq, Nat.zero_add, Nat.add_zero, Nat.reduceAdd, List.getD_cons_zero, List.getD_cons_succ, xIf_true, xIf_false, FA_40_0, FA_40_1, FA_64_0, FA_64_1, FA_64_2, FA_67_0, FA_67_1, FA_67_2, FA_67_3, FA_75_0, FA_75_1, FA_75_2, FA_75_3, FA_82_0, FA_82_1, FA_82_2, FA_96_0, FA_96_1, FA_96_2, FA_123_0, FA_123_1, FA_123_2, LEN_34, LEN_38, LEN_51, LEN_56, LEN_60, LEN_65, LEN_83, LEN_88]
  refine xE_call CF_64 (first_ok (from_ := 0) (p := fun h => decide (t ≤ h.time)) CF_66 (h1.kept hk (by simp)) ((h2.slT encH_len (by omega)).kept0 hk) hlen (by omega) (fun h hm w' hk' => when1_ok (hb1.kept hk' (by simp)))) ?_
  rintro _ w2 ⟨rfl, hk2⟩
  refine ⟨?_, hk.then hk2 (by simp)⟩
  simp
end Go.Proofs.YtjajjblppogfoaaDoor
