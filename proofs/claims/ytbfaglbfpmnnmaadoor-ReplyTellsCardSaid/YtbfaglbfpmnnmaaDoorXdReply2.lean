import Derived.Test.YtbfaglbfpmnnmaaDoorXdReply1
namespace Go.Proofs.YtbfaglbfpmnnmaaDoor
set_option linter.unusedSimpArgs false
set_option linter.unusedVariables false
set_option maxRecDepth 100000
attribute [local irreducible] Go.X.xE
open Go Go.X

def okRp (r : Rp) : Prop := r.names.length ≤ 4611686018427387904 ∧ r.batches.length ≤ 1000000 ∧ ∀ p ∈ r.batches, p.2.size ≤ 1000000000
theorem rsmall : small rpFields := by
  intro f hf
  simp [rpFields] at hf
  rcases hf with rfl | rfl | rfl | rfl | rfl <;> simp
theorem buildL {a : Option Addr} {n c : Nat} : Tryd.prog.built 93 #[(2, Value.slice a n c)].toList = some #[Value.int .i64 0, .string strEmpty, .slice a n c] := by kernel_rfl
theorem rput_ok {x : RawRp} {r : Rp} {w : World} (h : IsRp w x r) (hr : okRp r) : Gives Tryd.prog 36 #[vR x] w fun u w' => PutPost w rpFields r.vals u w' := by
  obtain ⟨hn, hbl, hbs⟩ := hr
  refine C_reply_put ?_
  unfold S_reply_put
  refine xE_box fun w1 hb1 hk1 hz1 => ?_
  have hb1' : Blk w1 w.heap.size 56 (encR x) := hb1
  generalize eB : w.heap.size = B at *
  obtain ⟨L0, L1, L2, L3, L4, L5, L6⟩ := ldR hb1'
  obtain ⟨ba, bc, hbv, hbc, hbr⟩ := h.batches
  have hbat : SlT w1 encT x.bv r.batches := h.batches.kept0 hk1
  simp only [xP_nil, xP_pick, xP_func, xP_not, xP_add, xP_sub, xP_mul, xP_lss, xP_leq, xP_gtr, xP_geq, xP_max2, xP_min2, xR_eql, xR_neq, Nat.zero_add, Nat.add_zero, Nat.reduceAdd, List.getD_cons_zero, List.getD_cons_succ, xIf_true, xIf_false, FA_25_0, FA_39_0, FA_41_0, FA_41_1, FA_41_2, FA_56_0, FA_56_1, FA_56_2, FA_56_3, FA_56_4, FA_56_5, FA_72_0, FA_79_0, FA_79_1, FA_93_0, FA_93_1, FA_93_2, FA_102_2, FA_123_0, FA_123_1, FA_123_2, FA_123_3, FA_123_4, FA_131_0, FA_131_1, FA_131_2, LEN_35, LEN_45, LEN_49, LEN_53, LEN_54, LEN_57, LEN_86, LEN_88, LEN_147, L5]
  rw [hbv]
  simp only [xP_nil, xP_pick, xP_func, xP_not, xP_add, xP_sub, xP_mul, xP_lss, xP_leq, xP_gtr, xP_geq, xP_max2, xP_min2, xR_eql, xR_neq, Nat.zero_add, Nat.add_zero, Nat.reduceAdd, List.getD_cons_zero, List.getD_cons_succ, xIf_true, xIf_false, FA_25_0, FA_39_0, FA_41_0, FA_41_1, FA_41_2, FA_56_0, FA_56_1, FA_56_2, FA_56_3, FA_56_4, FA_56_5, FA_72_0, FA_79_0, FA_79_1, FA_93_0, FA_93_1, FA_93_2, FA_102_2, FA_123_0, FA_123_1, FA_123_2, FA_123_3, FA_123_4, FA_131_0, FA_131_1, FA_131_2, LEN_35, LEN_45, LEN_49, LEN_53, LEN_54, LEN_57, LEN_86, LEN_88, LEN_147]
  rw [hbv] at hbat
  refine xLoop_of (fun vs w' => ∃ (i : Nat) (o : Value) (F : List Nat), vs = [o, .int .i64 i] ∧ i ≤ r.batches.length ∧ Own w' 9 1 o i (((r.batches.take i).map textT).flatMap encS) F ∧ (∀ g ∈ F, B + 1 ≤ g) ∧ Blk w' B 56 (encR x) ∧ Kept [] w w' ∧ Kept [] w1 w')
    (fun vs _ => match vs with | [_, .int _ i] => r.batches.length - i.toNat | _ => 0) ⟨0, .slice none 0 0, [], rfl, by omega, own_nil _ _ _, by simp, hb1', hk1, Kept.refl _ _⟩ ?_
  rintro _ _ w2 ⟨i, o, F, rfl, hi, ho, hF, hb2, hk2, hk12⟩
  simp only [xP_nil, xP_pick, xP_func, xP_not, xP_add, xP_sub, xP_mul, xP_lss, xP_leq, xP_gtr, xP_geq, xP_max2, xP_min2, xR_eql, xR_neq, Nat.zero_add, Nat.add_zero, Nat.reduceAdd, List.getD_cons_zero, List.getD_cons_succ, xIf_true, xIf_false, FA_25_0, FA_39_0, FA_41_0, FA_41_1, FA_41_2, FA_56_0, FA_56_1, FA_56_2, FA_56_3, FA_56_4, FA_56_5, FA_72_0, FA_79_0, FA_79_1, FA_93_0, FA_93_1, FA_93_2, FA_102_2, FA_123_0, FA_123_1, FA_123_2, FA_123_3, FA_123_4, FA_131_0, FA_131_1, FA_131_2, LEN_35, LEN_45, LEN_49, LEN_53, LEN_54, LEN_57, LEN_86, LEN_88, LEN_147, xIf_dec]
  have hz2 := hk12.size
  refine ⟨fun hlt => ?_, fun hge => ?_⟩
  · have hlt' : i < r.batches.length := by omega
    refine (rowT.get hbat hk12 hlt').2 ?_
    refine xE_alloc Z_79 fun w3 hb3 hk3 hz3 => ?_
    refine xE_storeN (l1 := []) (l2 := encT (0, strEmpty)) (l3 := []) SZ_79 hb3 rfl rfl rfl (encT_one _) fun w4 hb4 hk4 hz4 => ?_
    have hb4' : Blk w4 w2.heap.size 79 (encT r.batches[i]) := by simpa [Value.cells, vT] using hb4
    have hk24 : Kept [] w2 w4 := hk3.trans hk4 (by simp) (by simp)
    obtain ⟨M0, M1, M2⟩ := ldT hb4'
    simp only [M2]
    have hps := hbs _ (List.getElem_mem hlt')
    refine xE_call CF_56 (text8_ok (by omega)) ?_
    rintro _ w5 ⟨rfl, hk5⟩
    refine xE_buildSlice EL_53 [.string (textT r.batches[i])] rfl rfl (by simp [Value.cells]) (by omega) (by omega) fun w6 hb6 hk6 hz6 => ?_
    have hk26 : Kept [] w2 w6 := (hk24.then hk5 (by simp)).then hk6 (by simp)
    have hz26 := hk26.size
    have hat : At w6 w5.heap.size 0 ([textT r.batches[i]].flatMap encS) := hb6.at
    refine xE_append (m := 1) EL_53 (ho.kept hk26 (by simp)) hat rfl (by simp [encS]; rfl) (by omega) (by unfold maxLen; omega) (by omega) fun o' w7 F' ho' hk7 hF' _ => ?_
    rw [wrap64 (by omega) (by omega)]
    refine ⟨⟨i + 1, o', F', rfl, hlt', ?_, fun g hg => (hF' g hg).elim (hF g) (fun h => by omega), (hb2.kept hk26 (by simp)).kept hk7 (fun hm => by have := hF _ hm; omega), (hk2.then hk26 (by simp)).then hk7 (fun g hg => .inr (by have := hF g hg; omega)), (hk12.then hk26 (by simp)).then hk7 (fun g hg => .inr (by have := hF g hg; omega))⟩, by omega⟩
    rw [List.take_succ_eq_append_getElem hlt', List.map_append, List.flatMap_append]
    exact ho'
  · obtain rfl : i = r.batches.length := by omega
    rw [List.take_length] at ho
    obtain ⟨N0, N1, N2, N3, N4, N5, N6⟩ := ldR (blk_drew hb2)
    simp only [N0, N1, N2, N3, N4]
    refine (xP_build (cells := #[.int .i64 x.corr, .string strEmpty, .slice none 0 0]) (by kernel_rfl)).2 ?_
    refine (xP_build (cells := #[.int .i64 x.err, .string strEmpty, .slice none 0 0]) (by kernel_rfl)).2 ?_
    refine (xP_build (cells := #[.int .i64 x.base, .string strEmpty, .slice none 0 0]) (by kernel_rfl)).2 ?_
    refine (xP_build (cells := #[.int .i64 x.next, .string strEmpty, .slice none 0 0]) (by kernel_rfl)).2 ?_
    refine (xP_build (cells := #[.int .i64 0, .string strEmpty, x.nv]) (by obtain ⟨a, c, e, _⟩ := h.names; rw [e]; exact buildL)).2 ?_
    refine (xP_build (cells := #[.int .i64 0, .string strEmpty, o]) (by obtain ⟨_, _, e, _⟩ := ho.slice; rw [e]; exact buildL)).2 ?_
    have howns : SlT w2 encS o (r.batches.map textT) := by
      have := ho
      rw [show r.batches.length = (r.batches.map textT).length by simp] at this
      exact this.slT encS_len (by omega)
    obtain ⟨raws, eraws⟩ : ∃ raws : List RawV, raws = [⟨x.corr, strEmpty, .slice none 0 0⟩, ⟨x.err, strEmpty, .slice none 0 0⟩, ⟨x.base, strEmpty, .slice none 0 0⟩, ⟨x.next, strEmpty, .slice none 0 0⟩, ⟨0, strEmpty, x.nv⟩, ⟨0, strEmpty, o⟩] := ⟨_, rfl⟩
    have hkd : Kept [] w2 w2.drew := keptd
    have fin : ∀ (fv vv : Value) (w' : World), Kept [] w2 w' → SlT w' encF fv rpFields → SlT w' encV vv raws →
        xE Tryd.prog (sCall 57 #[fv, vv]) w' fun v39 w45 => xP Tryd.prog (sExtract v39 0) fun v40 => xP Tryd.prog (sExtract v39 1) fun v41 => Ret (fun u w' => PutPost w rpFields r.vals u w') (.returned (.tuple #[v40, v41])) w45 := by
      intro fv vv w' hk' hfv hvv
      refine xE_call CF_57 (put_ok hfv rsmall (by simp [rpFields]) hvv (vs := r.vals) (by rw [eraws]; rfl) ?_ (by simp [Rp.vals]) ?_) ?_
      · intro i a b ha hb
        have hnv : SlT w' encS x.nv r.names := (h.names.kept0 hk2).kept0 hk'
        have hov : SlT w' encS o (r.batches.map textT) := howns.kept0 hk'
        have hnil : SlT w' encS (.slice none 0 0) ([] : List ByteArray) := ⟨none, 0, rfl, by simp, .inl rfl⟩
        rw [eraws] at ha
        unfold Rp.vals at hb
        rcases i with _ | _ | _ | _ | _ | _ | i
        · simp at ha hb; subst ha; subst hb; exact ⟨h.corr, rfl, hnil⟩
        · simp at ha hb; subst ha; subst hb; exact ⟨h.err, rfl, hnil⟩
        · simp at ha hb; subst ha; subst hb; exact ⟨h.base, rfl, hnil⟩
        · simp at ha hb; subst ha; subst hb; exact ⟨h.next, rfl, hnil⟩
        · simp at ha hb; subst ha; subst hb; exact ⟨rfl, rfl, hnv⟩
        · simp at ha hb; subst ha; subst hb; exact ⟨rfl, rfl, hov⟩
        · simp at ha
      · intro y hy
        simp [Rp.vals] at hy
        rcases hy with rfl | rfl | rfl | rfl | rfl | rfl <;> simp <;> omega
      intro v w3 hp
      unfold PutPost at hp
      have hz' := (hk2.then hk' (by simp)).size
      cases hg : gramPut rpFields r.vals with
      | error e =>
        rw [hg] at hp
        obtain ⟨rfl, hk3⟩ := hp
        simp only [xP_ex0, xP_ex1]
        show PutPost _ _ _ _ _
        unfold PutPost
        rw [hg]
        exact ⟨rfl, (hk2.then hk' (by simp)).then hk3 (by simp)⟩
      | ok bs =>
        rw [hg] at hp
        obtain ⟨u, rfl, F3, ho3, hF3, hk3⟩ := hp
        simp only [xP_ex0, xP_ex1]
        show PutPost _ _ _ _ _
        unfold PutPost
        rw [hg]
        exact ⟨u, rfl, F3, ho3, fun g hg => by have := hF3 g hg; omega, (hk2.then hk' (by simp)).then hk3 (by simp)⟩
    have hraw : [Value.agg #[.int .i64 x.corr, .string strEmpty, .slice none 0 0], .agg #[.int .i64 x.err, .string strEmpty, .slice none 0 0], .agg #[.int .i64 x.base, .string strEmpty, .slice none 0 0], .agg #[.int .i64 x.next, .string strEmpty, .slice none 0 0], .agg #[.int .i64 0, .string strEmpty, x.nv], .agg #[.int .i64 0, .string strEmpty, o]] = raws.map vV := by rw [eraws]; rfl
    have hcells : (raws.map vV).flatMap (fun v => v.cells.toList) = raws.flatMap encV := by rw [List.flatMap_map]; rfl
    have hlen6 : raws.length = 6 := by rw [eraws]; rfl
    have hsz : ∀ v ∈ raws.map vV, v.cells.size = 3 := by
      intro v hv
      obtain ⟨y, -, rfl⟩ := List.mem_map.1 hv
      rfl
    refine ⟨?_, ?_⟩
    · refine xE_call CF_43 fields_ok ?_
      rintro fv w3 ⟨hfv, hk3⟩
      have hb3 := (blk_drew hb2).kept hk3 (by simp)
      refine (still1 ONE_53 (hb3.cell (o := 4))).2 ?_
      refine (still1 ONE_3 (hb3.cell (o := 3))).2 ?_
      refine (still1 ONE_3 (hb3.cell (o := 2))).2 ?_
      refine (still1 ONE_31 (hb3.cell (o := 1))).2 ?_
      refine (still1 ONE_3 (hb3.cell (o := 0))).2 ?_
      refine xE_buildSlice EL_88 (raws.map vV) (by rw [← hraw]; rfl) (by simp [hlen6]) hsz (by omega) (by omega) fun w4 hb4 hk4 hz4 => ?_
      rw [hcells] at hb4
      exact fin _ _ _ ((hkd.then hk3 (by simp)).then hk4 (by simp)) (hfv.kept0 hk4) ⟨_, _, by rw [hlen6], by rw [hlen6]; exact Nat.le_refl _, .inr ⟨_, _, rfl, hb4.at⟩⟩
    · refine xE_buildSlice EL_88 (raws.map vV) (by rw [← hraw]; rfl) (by simp [hlen6]) hsz (by omega) (by omega) fun w4 hb4 hk4 hz4 => ?_
      rw [hcells] at hb4
      refine xE_call CF_43 fields_ok ?_
      rintro fv w5 ⟨hfv, hk5⟩
      exact fin _ _ _ ((hkd.then hk4 (by simp)).then hk5 (by simp)) hfv ⟨_, _, by rw [hlen6], by rw [hlen6]; exact Nat.le_refl _, .inr ⟨_, _, rfl, (hb4.kept hk5 (by simp)).at⟩⟩

theorem neg_ok {p : Int × ByteArray} {w : World} : Gives Tryd.prog 38 #[vT p] w fun u w' => u = .bool (decide (p.1 < 0)) ∧ Kept [] w w' := by
  refine C_reply_Rightx1 ?_
  unfold S_reply_Rightx1
  refine xE_box fun w1 hb1 hk1 hz1 => ?_
  obtain ⟨L0, L1, L2⟩ := ldT (p := p) hb1
  simp only [xP_nil, xP_pick, xP_func, xP_not, xP_add, xP_sub, xP_mul, xP_lss, xP_leq, xP_gtr, xP_geq, xP_max2, xP_min2, xR_eql, xR_neq, Nat.zero_add, Nat.add_zero, Nat.reduceAdd, List.getD_cons_zero, List.getD_cons_succ, xIf_true, xIf_false, FA_25_0, FA_39_0, FA_41_0, FA_41_1, FA_41_2, FA_56_0, FA_56_1, FA_56_2, FA_56_3, FA_56_4, FA_56_5, FA_72_0, FA_79_0, FA_79_1, FA_93_0, FA_93_1, FA_93_2, FA_102_2, FA_123_0, FA_123_1, FA_123_2, FA_123_3, FA_123_4, FA_131_0, FA_131_1, FA_131_2, LEN_35, LEN_45, LEN_49, LEN_53, LEN_54, LEN_57, LEN_86, LEN_88, LEN_147, L0]
  exact ⟨rfl, hk1⟩
theorem rright_ok {x : RawRp} {r : Rp} {w : World} (h : IsRp w x r) (hr : okRp r) : Gives Tryd.prog 22 #[vR x] w fun u w' => u = .bool r.right ∧ Kept [] w w' := by
  refine C_reply_Right ?_
  unfold S_reply_Right
  refine xE_box fun w1 hb1 hk1 hz1 => ?_
  have hb1' : Blk w1 w.heap.size 56 (encR x) := hb1
  obtain ⟨L0, L1, L2, L3, L4, L5, L6⟩ := ldR hb1'
  simp only [L6]
  refine xE_call CF_36 (rput_ok (h.kept0 hk1) hr) ?_
  intro u w2 hp
  unfold PutPost at hp
  unfold Rp.right Rp.put
  cases hg : gramPut rpFields r.vals with
  | error e =>
    rw [hg] at hp
    obtain ⟨rfl, hk2⟩ := hp
    simp only [xP_ex0, xP_ex1]
    refine (xR_eqlI IFE).2 ?_
    simp only [xP_nil, xP_pick, xP_func, xP_not, xP_add, xP_sub, xP_mul, xP_lss, xP_leq, xP_gtr, xP_geq, xP_max2, xP_min2, xR_eql, xR_neq, Nat.zero_add, Nat.add_zero, Nat.reduceAdd, List.getD_cons_zero, List.getD_cons_succ, xIf_true, xIf_false, FA_25_0, FA_39_0, FA_41_0, FA_41_1, FA_41_2, FA_56_0, FA_56_1, FA_56_2, FA_56_3, FA_56_4, FA_56_5, FA_72_0, FA_79_0, FA_79_1, FA_93_0, FA_93_1, FA_93_2, FA_102_2, FA_123_0, FA_123_1, FA_123_2, FA_123_3, FA_123_4, FA_131_0, FA_131_1, FA_131_2, LEN_35, LEN_45, LEN_49, LEN_53, LEN_54, LEN_57, LEN_86, LEN_88, LEN_147]
    exact ⟨rfl, hk1.then hk2 (by simp)⟩
  | ok bs =>
    rw [hg] at hp
    obtain ⟨u, rfl, F, ho, hF, hk2⟩ := hp
    have hk02 := hk1.then hk2 (by simp)
    obtain ⟨M0, M1, M2, M3, M4, M5, M6⟩ := ldR (hb1'.kept hk2 (by simp))
    simp only [xP_ex0, xP_ex1]
    refine (xR_eqlN IFE).2 ?_
    simp only [xP_nil, xP_pick, xP_func, xP_not, xP_add, xP_sub, xP_mul, xP_lss, xP_leq, xP_gtr, xP_geq, xP_max2, xP_min2, xR_eql, xR_neq, Nat.zero_add, Nat.add_zero, Nat.reduceAdd, List.getD_cons_zero, List.getD_cons_succ, xIf_true, xIf_false, FA_25_0, FA_39_0, FA_41_0, FA_41_1, FA_41_2, FA_56_0, FA_56_1, FA_56_2, FA_56_3, FA_56_4, FA_56_5, FA_72_0, FA_79_0, FA_79_1, FA_93_0, FA_93_1, FA_93_2, FA_102_2, FA_123_0, FA_123_1, FA_123_2, FA_123_3, FA_123_4, FA_131_0, FA_131_1, FA_131_2, LEN_35, LEN_45, LEN_49, LEN_53, LEN_54, LEN_57, LEN_86, LEN_88, LEN_147, M5]
    refine xE_call (Q := fun u w' => u = .bool (r.batches.any fun p => decide (p.1 < 0)) ∧ Kept [] w2 w') CF_37 ?_ ?_
    · refine C_slices_ContainsFunc_api_Fetched ?_
      unfold S_slices_ContainsFunc_api_Fetched
      refine xE_call (Q := fun u w' => u = .int .i64 (if r.batches.findIdx (fun p => decide (p.1 < 0)) < r.batches.length then (r.batches.findIdx (fun p => decide (p.1 < 0)) : Int) else -1) ∧ Kept [] w2 w') CF_58 ?_ ?_
      · refine C_slices_IndexFunc_api_Fetched ?_
        exact xIndexFunc rowT (p := fun p => decide (p.1 < 0)) (by kernel_rfl) (h.batches.kept0 hk02) (by have := hr.2.1; omega) (fun p _ w' hk => neg_ok) (fun w' hk => ⟨rfl, hk⟩)
      rintro _ w4 ⟨rfl, hk4⟩
      simp only [xP_nil, xP_pick, xP_func, xP_not, xP_add, xP_sub, xP_mul, xP_lss, xP_leq, xP_gtr, xP_geq, xP_max2, xP_min2, xR_eql, xR_neq, Nat.zero_add, Nat.add_zero, Nat.reduceAdd, List.getD_cons_zero, List.getD_cons_succ, xIf_true, xIf_false, FA_25_0, FA_39_0, FA_41_0, FA_41_1, FA_41_2, FA_56_0, FA_56_1, FA_56_2, FA_56_3, FA_56_4, FA_56_5, FA_72_0, FA_79_0, FA_79_1, FA_93_0, FA_93_1, FA_93_2, FA_102_2, FA_123_0, FA_123_1, FA_123_2, FA_123_3, FA_123_4, FA_131_0, FA_131_1, FA_131_2, LEN_35, LEN_45, LEN_49, LEN_53, LEN_54, LEN_57, LEN_86, LEN_88, LEN_147, found]
      exact ⟨rfl, hk4⟩
    rintro _ w4 ⟨rfl, hk4⟩
    simp only [xP_nil, xP_pick, xP_func, xP_not, xP_add, xP_sub, xP_mul, xP_lss, xP_leq, xP_gtr, xP_geq, xP_max2, xP_min2, xR_eql, xR_neq, Nat.zero_add, Nat.add_zero, Nat.reduceAdd, List.getD_cons_zero, List.getD_cons_succ, xIf_true, xIf_false, FA_25_0, FA_39_0, FA_41_0, FA_41_1, FA_41_2, FA_56_0, FA_56_1, FA_56_2, FA_56_3, FA_56_4, FA_56_5, FA_72_0, FA_79_0, FA_79_1, FA_93_0, FA_93_1, FA_93_2, FA_102_2, FA_123_0, FA_123_1, FA_123_2, FA_123_3, FA_123_4, FA_131_0, FA_131_1, FA_131_2, LEN_35, LEN_45, LEN_49, LEN_53, LEN_54, LEN_57, LEN_86, LEN_88, LEN_147]
    exact ⟨rfl, hk02.then hk4 (by simp)⟩
theorem right_put {r : Rp} (h : r.right = true) : ∃ bs, gramPut rpFields r.vals = .ok bs ∧ r.bytes = bs := by
  have h' := h
  unfold Rp.right Rp.put at h
  unfold Rp.bytes Rp.put
  cases hg : gramPut rpFields r.vals with
  | error e => rw [hg] at h; cases h
  | ok bs => exact ⟨bs, rfl, by rw [if_pos h']; rfl⟩
theorem rPut_ok {x : RawRp} {r : Rp} {w : World} (h : IsRp w x r) (hr : okRp r) : Gives Tryd.prog 21 #[vR x] w fun u w' => Fresh w w' u r.bytes := by
  refine C_reply_Put ?_
  unfold S_reply_Put
  refine xE_box fun w1 hb1 hk1 hz1 => ?_
  have hb1' : Blk w1 w.heap.size 56 (encR x) := hb1
  obtain ⟨L0, L1, L2, L3, L4, L5, L6⟩ := ldR hb1'
  simp only [L6]
  refine xE_call CF_22 (rright_ok (h.kept0 hk1) hr) ?_
  rintro _ w2 ⟨rfl, hk2⟩
  have hk02 := hk1.then hk2 (by simp)
  obtain ⟨M0, M1, M2, M3, M4, M5, M6⟩ := ldR (hb1'.kept hk2 (by simp))
  simp only [xP_nil, xP_pick, xP_func, xP_not, xP_add, xP_sub, xP_mul, xP_lss, xP_leq, xP_gtr, xP_geq, xP_max2, xP_min2, xR_eql, xR_neq, Nat.zero_add, Nat.add_zero, Nat.reduceAdd, List.getD_cons_zero, List.getD_cons_succ, xIf_true, xIf_false, FA_25_0, FA_39_0, FA_41_0, FA_41_1, FA_41_2, FA_56_0, FA_56_1, FA_56_2, FA_56_3, FA_56_4, FA_56_5, FA_72_0, FA_79_0, FA_79_1, FA_93_0, FA_93_1, FA_93_2, FA_102_2, FA_123_0, FA_123_1, FA_123_2, FA_123_3, FA_123_4, FA_131_0, FA_131_1, FA_131_2, LEN_35, LEN_45, LEN_49, LEN_53, LEN_54, LEN_57, LEN_86, LEN_88, LEN_147, xIf_bool, M6]
  refine ⟨fun hno => ?_, fun hyes => ?_⟩
  · have : r.bytes = [] := by
      unfold Rp.bytes
      rw [if_neg (by simpa using hno)]
    rw [this]
    exact ⟨[], own_nil _ _ _, by simp, hk02⟩
  · obtain ⟨bs, hg, hby⟩ := right_put (r := r) (by simpa using hyes)
    refine xE_call CF_36 (rput_ok (h.kept0 hk02) hr) ?_
    intro u w3 hp
    unfold PutPost at hp
    rw [hg] at hp
    obtain ⟨v, rfl, F, ho, hF, hk3⟩ := hp
    simp only [xP_ex0, xP_ex1]
    rw [hby]
    have := hk02.size
    exact ⟨F, ho, fun g hg => by have := hF g hg; omega, hk02.then hk3 (by simp)⟩
end Go.Proofs.YtbfaglbfpmnnmaaDoor
