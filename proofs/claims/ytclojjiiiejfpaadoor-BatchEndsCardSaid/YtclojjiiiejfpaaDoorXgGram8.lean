import Derived.Test.YtclojjiiiejfpaaDoorXgGram7
namespace Go.Proofs.YtclojjiiiejfpaaDoor
set_option linter.unusedSimpArgs false
set_option linter.unusedVariables false
set_option maxRecDepth 100000
attribute [local irreducible] Go.X.xE
open Go Go.X

def IsRow (w : World) (raws : List RawV) (vs : List GVl) : Prop := raws.length = vs.length ∧ ∀ (i : Nat) x y, raws[i]? = some x → vs[i]? = some y → IsV w x y
theorem IsRow.nil (w : World) : IsRow w [] [] := ⟨rfl, fun i x y h => by simp at h⟩
theorem IsRow.kept {w w' : World} {M : List Nat} {B : Nat} {raws : List RawV} {vs : List GVl} (h : IsRow w raws vs) (hf : ∀ x ∈ raws, Fr B x.lv) (hk : Kept M w w') (hM : ∀ k ∈ M, k < B) : IsRow w' raws vs :=
  ⟨h.1, fun i x y hx hy => IsV.kept (h.2 i x y hx hy) (hf x (List.mem_of_getElem? hx)) hk hM⟩
theorem IsRow.kept0 {w w' : World} {raws : List RawV} {vs : List GVl} (h : IsRow w raws vs) (hk : Kept [] w w') : IsRow w' raws vs :=
  ⟨h.1, fun i x y hx hy => (h.2 i x y hx hy).kept0 hk⟩
theorem IsRow.keptOff {w w' : World} {M : List Nat} {raws : List RawV} {vs : List GVl} (h : IsRow w raws vs) (hf : ∀ x ∈ raws, Off M x.lv) (hk : Kept M w w') : IsRow w' raws vs :=
  ⟨h.1, fun i x y hx hy => IsV.keptOff (h.2 i x y hx hy) (hf x (List.mem_of_getElem? hx)) hk⟩
theorem IsRow.snoc {w : World} {raws : List RawV} {vs : List GVl} {x : RawV} {v : GVl} (h : IsRow w raws vs) (hv : IsV w x v) : IsRow w (raws ++ [x]) (vs ++ [v]) := by
  refine ⟨by simp [h.1], fun i a b ha hb => ?_⟩
  rcases Nat.lt_trichotomy i raws.length with hi | hi | hi
  · rw [List.getElem?_append_left hi] at ha
    rw [List.getElem?_append_left (by have := h.1; omega)] at hb
    exact h.2 i a b ha hb
  · subst hi
    have e := h.1
    rw [List.getElem?_append_right (Nat.le_refl _), Nat.sub_self] at ha
    rw [List.getElem?_append_right (by omega), e, Nat.sub_self] at hb
    simp at ha hb
    subst ha; subst hb
    exact hv
  · rw [List.getElem?_append_right (by omega)] at ha
    have : i - raws.length ≥ 1 := by omega
    rw [List.getElem?_eq_none (by simp; omega)] at ha
    cases ha
def opGet : ByteArray := ⟨#[103, 114, 97, 109, 46, 71, 101, 116]⟩
def GetPost (w : World) (fs : List GFd) (b : List UInt8) (r : Value) (w' : World) : Prop := Kept [] w w' ∧ match gramGet fs b with
  | .ok vs => ∃ o raws, r = .tuple #[o, .nilIface] ∧ SlT w' encV o raws ∧ IsRow w' raws vs ∧ Fr w.heap.size o ∧ (∀ x ∈ raws, Fr w.heap.size x.lv) ∧ (∀ x ∈ raws, x.lv.oneCell' = true)
  | .error (i, k) => r = .tuple #[.slice none 0 0, faultV opGet i (errV k)]
theorem encV_one {x : RawV} (h : x.lv.oneCell' = true) : ∀ u ∈ encV x, u.oneCell' = true := by
  intro u hu
  simp [encV] at hu
  rcases hu with rfl | rfl | rfl <;> first | rfl | exact h

theorem get_ok {fs : List GFd} {b : List UInt8} {v u : Value} {w : World} (hf : SlT w encF v fs) (hs : small fs) (hfl : fs.length ≤ 1000000) (hv : SlT w encB u b) (hbl : b.length ≤ 4611686018427387904) :
    Gives Tryd.prog 18 #[v, u] w fun r w' => GetPost w fs b r w' := by
  refine C_gram_Get ?_
  unfold S_gram_Get
  refine xE_call CF_40 (wrong_ok hf (by omega) hs) ?_
  rintro _ w1 ⟨rfl, hk1⟩
  unfold GetPost gramGet
  by_cases hw : fs.findIdx (fun f => !f.right) < fs.length
  · rw [if_pos hw, if_pos hw]
    have e1 : (0 : Int) ≤ (fs.findIdx (fun f => !f.right) : Nat) := by omega
    simp only [xP_nil, xP_pick, xP_func, xP_not, xP_add, xP_sub, xP_mul, xP_lss, xP_leq, xP_gtr, xP_geq, xP_max2, xP_min2, xR_eql, xR_neq, Nat.zero_add, Nat.add_zero, Nat.reduceAdd, List.getD_cons_zero, List.getD_cons_succ, xIf_true, xIf_false, FA_23_0, FA_23_1, FA_23_2, FA_23_3, FA_23_4, FA_32_0, FA_32_1, FA_32_2, FA_63_0, FA_63_1, FA_63_2, FA_63_3, FA_80_0, FA_80_1, FA_80_2, FA_85_0, FA_85_1, FA_85_2, LEN_24, LEN_25, LEN_30, LEN_33, LEN_58, LEN_82, LEN_134, e1, decide_true, xP_iface CEN]
    refine xE_call CF_41 wrap_ok ?_
    rintro _ _ ⟨rfl, rfl⟩
    exact ⟨hk1, rfl⟩
  rw [if_neg hw, if_neg hw]
  have e1 : ¬ (0 : Int) ≤ -1 := by omega
  obtain ⟨fa, fc, rfl, hfc, hfr⟩ := hf
  have hf : SlT w encF (.slice fa fs.length fc) fs := ⟨fa, fc, rfl, hfc, hfr⟩
  have hrt : ∀ f ∈ fs, f.right = true := fun f hm => by
    cases hr : f.right with
    | true => rfl
    | false => exact absurd (List.findIdx_lt_length_of_exists ⟨f, hm, by simp [hr]⟩) hw
  simp only [xP_nil, xP_pick, xP_func, xP_not, xP_add, xP_sub, xP_mul, xP_lss, xP_leq, xP_gtr, xP_geq, xP_max2, xP_min2, xR_eql, xR_neq, Nat.zero_add, Nat.add_zero, Nat.reduceAdd, List.getD_cons_zero, List.getD_cons_succ, xIf_true, xIf_false, FA_23_0, FA_23_1, FA_23_2, FA_23_3, FA_23_4, FA_32_0, FA_32_1, FA_32_2, FA_63_0, FA_63_1, FA_63_2, FA_63_3, FA_80_0, FA_80_1, FA_80_2, FA_85_0, FA_85_1, FA_85_2, LEN_24, LEN_25, LEN_30, LEN_33, LEN_58, LEN_82, LEN_134, e1, decide_false]
  refine (xP_build (cells := #[u, .int .i64 0, .int .i64 0]) ?_).2 ?_
  · obtain ⟨ua, uc, rfl, -, -⟩ := hv
    kernel_rfl
  refine xE_box fun w2 hb2 hk2 hz2 => ?_
  have hk02 : Kept [] w w2 := hk1.then hk2 (by simp)
  have hz1 := hk1.size
  generalize eC : w1.heap.size = C at *
  have hcur0 : Cur w2 C u b 0 0 := ⟨by
      obtain ⟨ua, uc, rfl, -, -⟩ := hv
      simpa [Value.cells] using hb2, hv.kept0 hk02, by omega, hbl, by
      obtain ⟨ua, uc, rfl, _, hr⟩ := hv
      rcases hr with hr | ⟨bb, o, rfl, hat⟩
      · exact .inl hr
      · by_cases hn : b = []
        · exact .inl hn
        · right
          intro bb' o' n' cc' he
          cases he
          have hpos : 0 < (b.flatMap encB).length := by rw [flat_len encB_len]; have := List.length_pos_iff.2 hn; omega
          have hcell := hat 0 hpos
          rw [List.getElem?_eq_getElem hpos] at hcell
          have hlt : bb < w.heap.size := by simpa using block_lt_of_cell hcell
          omega⟩
  refine xLoop_of (fun ls w' => ∃ (i : Nat) (o : Value) (F : List Nat) (raws : List RawV) (vs : List GVl) (at' : Nat), ls = [o, .int .i64 i] ∧ i ≤ fs.length ∧ raws.length = i ∧ Own w' 32 3 o i (raws.flatMap encV) F ∧ (∀ g ∈ F, C + 1 ≤ g) ∧
      IsRow w' raws vs ∧ (∀ x ∈ raws, Fr (C + 1) x.lv ∧ Lt w'.heap.size x.lv ∧ Off F x.lv) ∧ (∀ x ∈ raws, x.lv.oneCell' = true) ∧ Cur w' C u b at' 0 ∧ Kept [] w w' ∧ C + 1 ≤ w'.heap.size ∧ getRest b.length fs b = (getRest b.length (fs.drop i) (b.drop at')).map (vs ++ ·))
    (fun ls _ => match ls with | [_, .int _ i] => fs.length - i.toNat | _ => 0) ⟨0, .slice none 0 0, [], [], [], 0, rfl, by omega, rfl, own_nil _ _ _, by simp, IsRow.nil _, by simp, by simp, hcur0, hk02, by omega, by simp [Except.map]; cases getRest b.length fs b <;> rfl⟩ ?_
  rintro _ _ w3 ⟨i, o, F, raws, vs, at', rfl, hi, hrl, ho, hF, hrow, hfr', hone, hcur, hk3, hz3, hget⟩
  simp only [xP_nil, xP_pick, xP_func, xP_not, xP_add, xP_sub, xP_mul, xP_lss, xP_leq, xP_gtr, xP_geq, xP_max2, xP_min2, xR_eql, xR_neq, Nat.zero_add, Nat.add_zero, Nat.reduceAdd, List.getD_cons_zero, List.getD_cons_succ, xIf_true, xIf_false, FA_23_0, FA_23_1, FA_23_2, FA_23_3, FA_23_4, FA_32_0, FA_32_1, FA_32_2, FA_63_0, FA_63_1, FA_63_2, FA_63_3, FA_80_0, FA_80_1, FA_80_2, FA_85_0, FA_85_1, FA_85_2, LEN_24, LEN_25, LEN_30, LEN_33, LEN_58, LEN_82, LEN_134, xIf_dec]
  refine ⟨fun hlt => ?_, fun hge => ?_⟩
  · have hif : i < fs.length := by omega
    refine (rowF.get hf hk3 hif).2 ?_
    refine xE_alloc Z_23 fun w4 hb4 hk4 hz4 => ?_
    refine xE_storeN (l1 := []) (l2 := [.int .i64 0, .int .i64 0, .int .i64 0, .int .i64 0, .int .i64 0]) (l3 := []) SZ_23 hb4 rfl rfl rfl (encF_cells fs[i]) fun w5 hb5 hk5 hz5 => ?_
    have hb5' : Blk w5 w3.heap.size 23 (encF fs[i]) := by simpa [Value.cells, vF] using hb5
    have hk35 : Kept [] w3 w5 := hk4.trans hk5 (by simp) (by simp)
    have hz35 := hk35.size
    have hcur5 := hcur.kept hk35
    obtain ⟨L0, L1, L2, L3, L4, L5⟩ := ldF hb5'
    obtain ⟨M0, M1, M2⟩ := ldC hcur5
    simp only [xP_nil, xP_pick, xP_func, xP_not, xP_add, xP_sub, xP_mul, xP_lss, xP_leq, xP_gtr, xP_geq, xP_max2, xP_min2, xR_eql, xR_neq, Nat.zero_add, Nat.add_zero, Nat.reduceAdd, List.getD_cons_zero, List.getD_cons_succ, xIf_true, xIf_false, FA_23_0, FA_23_1, FA_23_2, FA_23_3, FA_23_4, FA_32_0, FA_32_1, FA_32_2, FA_63_0, FA_63_1, FA_63_2, FA_63_3, FA_80_0, FA_80_1, FA_80_2, FA_85_0, FA_85_1, FA_85_2, LEN_24, LEN_25, LEN_30, LEN_33, LEN_58, LEN_82, LEN_134, L5, M1]
    refine xE_call CF_44 (value_ok hcur5 (hrt _ (List.getElem_mem hif)) (hs _ (List.getElem_mem hif))) ?_
    rintro r6 w6 ⟨hk6, x, rfl, hx1, hval⟩
    have hz6 := hk6.size
    refine xE_alloc Z_32 fun w7 hb7 hk7 hz7 => ?_
    refine xE_storeN (l1 := []) (l2 := encV rawZero) (l3 := []) SZ_32 hb7 rfl rfl rfl (encV_one hx1) fun w8 hb8 hk8 hz8 => ?_
    have hb8' : Blk w8 w6.heap.size 32 (encV x) := by simpa [Value.cells, vV] using hb8
    have hk68 : Kept [] w6 w8 := hk7.trans hk8 (by simp) (by simp)
    have hz68 := hk68.size
    have hk08 : Kept [] w w8 := ((hk3.then hk35 (by simp)).then hk6 (by simp; omega)).then hk68 (by simp)
    have ed : getRest b.length (fs.drop i) (b.drop at') = match fs[i].pVal (b.drop at') with | .error e => .error (b.length - (b.drop at').length, e) | .ok (v, r') => (getRest b.length (fs.drop (i + 1)) r').map (v :: ·) := by
      rw [List.drop_eq_getElem_cons hif]
      simp only [getRest]
      cases fs[i].pVal (b.drop at') <;> rfl
    have hle := hcur.le
    cases hpv : fs[i].pVal (b.drop at') with
    | error e =>
      rw [hpv] at hval
      obtain ⟨he0, at2, hc6⟩ := hval
      have hc8 := hc6.kept hk68
      obtain ⟨N0, N1, N2⟩ := ldC hc8
      simp only [xP_nil, xP_pick, xP_func, xP_not, xP_add, xP_sub, xP_mul, xP_lss, xP_leq, xP_gtr, xP_geq, xP_max2, xP_min2, xR_eql, xR_neq, Nat.zero_add, Nat.add_zero, Nat.reduceAdd, List.getD_cons_zero, List.getD_cons_succ, xIf_true, xIf_false, FA_23_0, FA_23_1, FA_23_2, FA_23_3, FA_23_4, FA_32_0, FA_32_1, FA_32_2, FA_63_0, FA_63_1, FA_63_2, FA_63_3, FA_80_0, FA_80_1, FA_80_2, FA_85_0, FA_85_1, FA_85_2, LEN_24, LEN_25, LEN_30, LEN_33, LEN_58, LEN_82, LEN_134, N2, ne_eq, he0, not_false_eq_true, decide_true, xP_iface CEN]
      refine xE_call CF_41 wrap_ok ?_
      rintro _ _ ⟨rfl, rfl⟩
      rw [hget, ed, hpv]
      refine ⟨hk08, ?_⟩
      simp only [Except.map]
      rw [List.length_drop]
      rw [show ((b.length : Int) - ((b.length - at' : Nat) : Int)) = (at' : Int) by omega]
      rfl
    | ok q =>
      obtain ⟨val, rest⟩ := q
      rw [hpv] at hval
      obtain ⟨hval, hfrx, hltx, at2, rfl, hc6⟩ := hval
      have hc8 := hc6.kept hk68
      obtain ⟨N0, N1, N2⟩ := ldC hc8
      obtain ⟨V0, V1, V2, V3⟩ := ldV (x := x) hb8'
      simp only [xP_nil, xP_pick, xP_func, xP_not, xP_add, xP_sub, xP_mul, xP_lss, xP_leq, xP_gtr, xP_geq, xP_max2, xP_min2, xR_eql, xR_neq, Nat.zero_add, Nat.add_zero, Nat.reduceAdd, List.getD_cons_zero, List.getD_cons_succ, xIf_true, xIf_false, FA_23_0, FA_23_1, FA_23_2, FA_23_3, FA_23_4, FA_32_0, FA_32_1, FA_32_2, FA_63_0, FA_63_1, FA_63_2, FA_63_3, FA_80_0, FA_80_1, FA_80_2, FA_85_0, FA_85_1, FA_85_2, LEN_24, LEN_25, LEN_30, LEN_33, LEN_58, LEN_82, LEN_134, N2, show decide ((0 : Int) ≠ 0) = false from rfl, V3]
      refine xE_buildSlice EL_33 [vV x] rfl rfl (by simp [vV, encV, Value.cells]) (by omega) (by omega) fun w9 hb9 hk9 hz9 => ?_
      have hat : At w9 w8.heap.size 0 ([x].flatMap encV) := by
        have := hb9.at
        simpa [vV, Value.cells] using this
      have hk59 : Kept [C] w5 w9 := (hk6.then hk68 (by simp)).then hk9 (by simp)
      have hk39 : Kept [C] w3 w9 := (hk35.mono (by simp)).then hk59 (by simp)
      have ho9 : Own w9 32 3 o i (raws.flatMap encV) F := ho.kept hk39 (fun g hg hm => by have := hF g hg; simp at hm; omega)
      refine xE_append (m := 1) EL_33 ho9 hat (by rw [flat_len encV_len]; rfl) (by intro a ha; simp at ha; exact encV_one hx1 a ha) (by omega) (by unfold maxLen; omega) (by omega) fun o' w10 F' ho' hk10 hF' _ => ?_
      rw [wrap64 (by omega) (by omega)]
      have hz10 := hk10.size
      have hFlt : ∀ g ∈ F, g < w3.heap.size := ho.lt
      have hk69 : Kept [] w6 w9 := hk68.then hk9 (by simp)
      have hk39' : Kept [C] w3 w9 := hk39
      have hz39 := hk39.size
      have hz69 := hk69.size
      have hF2 : ∀ g ∈ F', C + 1 ≤ g := fun g hg => (hF' g hg).elim (hF g) (fun h => by omega)
      have hCoff : ∀ x ∈ raws, Off [C] x.lv := fun x hx bb oo n cc hv hm => by
        have := (hfr' x hx).1 bb oo n cc hv
        simp at hm
        omega
      have hrow9 : IsRow w9 raws vs := hrow.keptOff hCoff hk39
      have hrow10 : IsRow w10 raws vs := hrow9.keptOff (fun x hx => (hfr' x hx).2.2) hk10
      have hxoff : Off F x.lv := fun bb oo n cc hv hm => by
        have := hfrx bb oo n cc hv
        have := hFlt bb hm
        omega
      have hval10 : IsV w10 x val := IsV.keptOff (hval.kept0 hk69) hxoff hk10
      refine ⟨⟨i + 1, o', F', raws ++ [x], vs ++ [val], at2, rfl, hif, by simp [hrl], by rw [List.flatMap_append]; simpa using ho', hF2, hrow10.snoc hval10, ?_, ?_, ?_, ((hk3.then hk39 (fun g hg => .inr (by simp at hg; omega))).then hk10 (fun g hg => .inr (by have := hF g hg; omega))), by omega, ?_⟩, by omega⟩
      · intro y hy
        rcases List.mem_append.1 hy with hy | hy
        · obtain ⟨h1, h2, h3⟩ := hfr' y hy
          refine ⟨h1, h2.mono (by omega), fun bb oo n cc hv hm => ?_⟩
          rcases hF' bb hm with hm | hm
          · exact h3 bb oo n cc hv hm
          · have := h2 bb oo n cc hv
            omega
        · simp at hy
          subst hy
          refine ⟨hfrx.mono (by omega), hltx.mono (by omega), fun bb oo n cc hv hm => ?_⟩
          rcases hF' bb hm with hm | hm
          · exact hxoff bb oo n cc hv hm
          · have := hltx bb oo n cc hv
            omega
      · intro y hy
        rcases List.mem_append.1 hy with hy | hy
        · exact hone y hy
        · simp at hy
          subst hy
          exact hx1
      · exact hcur0.keptNew (hc6.kept hk69) hk10 (fun g hg => by have := hF g hg; omega)
      · rw [hget, ed, hpv]
        simp only
        cases getRest b.length (fs.drop (i + 1)) (b.drop at2) <;> simp [Except.map]
  · obtain rfl : i = fs.length := by omega
    obtain ⟨M0, M1, M2⟩ := ldC hcur
    obtain ⟨ua, uc, rfl, hu1, hu2⟩ := hv
    simp only [xP_nil, xP_pick, xP_func, xP_not, xP_add, xP_sub, xP_mul, xP_lss, xP_leq, xP_gtr, xP_geq, xP_max2, xP_min2, xR_eql, xR_neq, Nat.zero_add, Nat.add_zero, Nat.reduceAdd, List.getD_cons_zero, List.getD_cons_succ, xIf_true, xIf_false, FA_23_0, FA_23_1, FA_23_2, FA_23_3, FA_23_4, FA_32_0, FA_32_1, FA_32_2, FA_63_0, FA_63_1, FA_63_2, FA_63_3, FA_80_0, FA_80_1, FA_80_2, FA_85_0, FA_85_1, FA_85_2, LEN_24, LEN_25, LEN_30, LEN_33, LEN_58, LEN_82, LEN_134, M1, xIf_dec]
    rw [hget, List.drop_length]
    have hle := hcur.le
    refine ⟨fun hlt => ?_, fun hge => ?_⟩
    · simp only [xP_iface CEN]
      refine xE_call CF_41 wrap_ok ?_
      rintro _ _ ⟨rfl, rfl⟩
      refine ⟨hk3, ?_⟩
      have hne : (b.drop at').isEmpty = false := by
        rw [List.isEmpty_eq_false_iff]
        intro h0
        have := congrArg List.length h0
        rw [List.length_drop] at this
        simp at this
        omega
      simp only [getRest, hne, Except.map, Bool.false_eq_true, if_false, List.length_drop]
      rw [show ((b.length : Int) - ((b.length - at' : Nat) : Int)) = (at' : Int) by omega]
      rfl
    · refine ⟨hk3, ?_⟩
      have hne : (b.drop at').isEmpty = true := by
        rw [List.isEmpty_iff]
        exact List.drop_eq_nil_of_le (by omega)
      simp only [getRest, hne, Except.map, if_true, List.append_nil]
      refine ⟨o, raws, rfl, ?_, hrow, fun bb oo n cc hv => by have := hF _ (ho.addr bb oo n cc hv); omega, fun x hx => (hfr' x hx).1.mono (by omega), hone⟩
      rw [← hrl] at ho
      exact ho.slT encV_len (by omega)
end Go.Proofs.YtclojjiiiejfpaaDoor
