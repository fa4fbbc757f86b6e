import Derived.Test.YtclojjiiiejfpaaDoorXgGramL1
namespace Go.Proofs.YtclojjiiiejfpaaDoor
set_option linter.unusedSimpArgs false
set_option linter.unusedVariables false
set_option maxRecDepth 100000
attribute [local irreducible] Go.X.xE
open Go Go.X Go.RowKit

theorem BOOLG : boolB Tryd.prog 4 := by unfold boolB; kernel_rfl
theorem small_take {fs : List GFd} (h : small fs) (n : Nat) : small (fs.take n) := fun f hf => h f (List.mem_of_mem_take hf)
theorem putRest_bound : ∀ {fs : List GFd} {i : Nat} {vs : List GVl} {b : List UInt8}, (∀ f ∈ fs, f.right = true) → putRest i fs vs = .ok b → b.length ≤ fs.length * 16711936
  | [], i, vs, b, _, h => by cases vs <;> (simp [putRest] at h; subst h; simp)
  | f :: fs, i, [], b, _, h => by simp [putRest] at h
  | f :: fs, i, v :: vs, b, hr, h => by
    unfold putRest at h
    split at h
    · rename_i hf
      obtain ⟨b', hb', rfl⟩ := map_ok h
      have h1 := written_len (hr f List.mem_cons_self) hf
      have h2 := putRest_bound (fun x hx => hr x (List.mem_cons_of_mem _ hx)) hb'
      rw [List.length_append, List.length_cons]
      omega
    · cases h
theorem gramPut_bound {fs : List GFd} {vs : List GVl} {b : List UInt8} (h : gramPut fs vs = .ok b) : b.length ≤ fs.length * 16711936 := by
  obtain ⟨hr, hl, hp⟩ := gramPut_ok h
  exact putRest_bound hr hp
/-- A new variable that gets a field. -/
theorem newF {f : GFd} {w : World} {K : Value → World → Prop} (k : ∀ w', Blk w' w.heap.size 23 (encF f) → Kept [] w w' → K (.pointer (some ⟨w.heap.size, 0, none⟩)) w') :
    xE Tryd.prog (sAlloc 23) w fun v w1 => xE Tryd.prog (sStore 23 v (vF f)) w1 fun _ w2 => K v w2 := by
  refine xE_alloc Z_23 fun w1 hb1 hk1 hz1 => ?_
  refine xE_storeN (l1 := []) (l2 := encF ⟨0, 0, 0, 0, 0⟩) (l3 := []) SZ_23 hb1 rfl rfl rfl (encF_cells f) fun w2 hb2 hk2 hz2 => ?_
  exact k w2 (by simpa [vF, Value.cells] using hb2) (hk1.trans hk2 (by simp) (by simp))
theorem ldF0 {w : World} {b : Nat} {f : GFd} {K : Value → Prop} (h : Blk w b 23 (encF f)) : xR Tryd.prog (sLoad 23 (.pointer (some ⟨b, 0, none⟩))) w K ↔ K (vF f) := ldN (l := encF f) AGG_23 h.at
theorem stF0 {w : World} {b : Nat} {f : GFd} {B : Prop} (h : Blk w b 23 (encF f)) : xStill Tryd.prog (sLoad 23 (.pointer (some ⟨b, 0, none⟩))) (vF f) w B ↔ B := stillN (l := encF f) AGG_23 h.at
theorem runsG {w w' : World} (hg : Glob w) (hk : Kept [] w w') : xE Tryd.prog (sCall 3 #[]) w' fun v w'' => Ret (fun u w' => u = .bool true ∧ Kept [] w w') (.returned v) w'' := by
  refine xE_call CF_3 (gramRuns_ok (hg.kept0 hk)) ?_
  rintro _ w2 ⟨rfl, hk2⟩
  exact ⟨rfl, hk.then hk2 (by simp)⟩

theorem gtells_ok {fs : List GFd} {raws : List RawV} {vs : List GVl} {fv vv : Value} {w : World} (hgl : Glob w) (hf : SlT w encF fv fs) (hs : small fs) (hv : SlT w encV vv raws) (hr : IsRow w raws vs) :
    Gives Tryd.prog 4 #[fv, vv] w fun u w' => u = .bool true ∧ Kept [] w w' := by
  refine C_stavelaw2_GramTells ?_
  unfold S_stavelaw2_GramTells
  refine xE_call CF_22 (few_ok hf hv hr) ?_
  rintro _ w1 ⟨f1, v1, raws1, rfl, hf1, hv1, hr1, hk1⟩
  simp only [xP_ex0, xP_ex1]
  have hs1 := small_take hs 6
  have hl1 : (fs.take 6).length ≤ 6 := by rw [List.length_take]; omega
  have hvl1 := fewV_len vs
  have hvs1 := fewV_small vs
  generalize fs.take 6 = fs1 at *
  generalize fewV vs = vs1 at *
  obtain ⟨fa, fc, rfl, hfc, hfr⟩ := hf1
  have hf1 : SlT w1 encF (.slice fa fs1.length fc) fs1 := ⟨fa, fc, rfl, hfc, hfr⟩
  try simp only [xP_nil, xP_pick, xP_func, xP_not, xP_add, xP_sub, xP_mul, xP_lss, xP_leq, xP_gtr, xP_geq, xP_max2, xP_min2, xR_eql, xR_neq, Nat.zero_add, Nat.add_zero, Nat.reduceAdd, List.getD_cons_zero, List.getD_cons_succ, xIf_true, xIf_false, FA_23_0, FA_23_1, FA_23_2, FA_23_3, FA_23_4, FA_32_0, FA_32_1, FA_32_2, FA_63_0, FA_63_1, FA_63_2, FA_63_3, FA_80_0, FA_80_1, FA_80_2, FA_85_0, FA_85_1, FA_85_2, LEN_24, LEN_25, LEN_30, LEN_33, LEN_58, LEN_82, LEN_134]
  refine xLoop_of (fun ls w' => ∃ i : Nat, ls = [.int .i64 i] ∧ i ≤ fs1.length ∧ Kept [] w1 w') (fun ls _ => match ls with | [.int _ i] => fs1.length - i.toNat | _ => 0) ⟨0, rfl, by omega, Kept.refl _ _⟩ ?_
  rintro _ _ w2 ⟨i, rfl, hi, hk2⟩
  have hk02 := hk1.then hk2 (by simp)
  simp only [xP_nil, xP_pick, xP_func, xP_not, xP_add, xP_sub, xP_mul, xP_lss, xP_leq, xP_gtr, xP_geq, xP_max2, xP_min2, xR_eql, xR_neq, Nat.zero_add, Nat.add_zero, Nat.reduceAdd, List.getD_cons_zero, List.getD_cons_succ, xIf_true, xIf_false, FA_23_0, FA_23_1, FA_23_2, FA_23_3, FA_23_4, FA_32_0, FA_32_1, FA_32_2, FA_63_0, FA_63_1, FA_63_2, FA_63_3, FA_80_0, FA_80_1, FA_80_2, FA_85_0, FA_85_1, FA_85_2, LEN_24, LEN_25, LEN_30, LEN_33, LEN_58, LEN_82, LEN_134, xIf_dec]
  refine ⟨fun hlt => ?_, fun hge => ?_⟩
  · have hif : i < fs1.length := by omega
    refine (rowF.get hf1 hk2 hif).2 ?_
    have h8 := hs1 _ (List.getElem_mem hif)
    generalize fs1[i] = f at *
    refine newF fun w3 hb3 hk3 => ?_
    refine (ldF0 (blk_drew hb3)).2 ?_
    refine (ldF0 (blk_drew hb3)).2 ?_
    refine xE_call CF_23 (right_ok h8) ?_
    rintro _ w4 ⟨rfl, hk4⟩
    refine (stF0 ((blk_drew hb3).kept hk4 (by simp))).2 ?_
    refine xE_call CF_24 dright_ok ?_
    rintro _ w5 ⟨rfl, hk5⟩
    refine (xR_neqBool BOOLG).2 ?_
    simp only [beq_self_eq_true, Bool.not_true, xP_nil, xP_pick, xP_func, xP_not, xP_add, xP_sub, xP_mul, xP_lss, xP_leq, xP_gtr, xP_geq, xP_max2, xP_min2, xR_eql, xR_neq, Nat.zero_add, Nat.add_zero, Nat.reduceAdd, List.getD_cons_zero, List.getD_cons_succ, xIf_true, xIf_false, FA_23_0, FA_23_1, FA_23_2, FA_23_3, FA_23_4, FA_32_0, FA_32_1, FA_32_2, FA_63_0, FA_63_1, FA_63_2, FA_63_3, FA_80_0, FA_80_1, FA_80_2, FA_85_0, FA_85_1, FA_85_2, LEN_24, LEN_25, LEN_30, LEN_33, LEN_58, LEN_82, LEN_134]
    rw [wrap64 (by omega) (by omega)]
    exact ⟨⟨i + 1, rfl, hif, (((hk2.then hk3 (by simp)).drew).then hk4 (by simp)).then hk5 (by simp)⟩, by omega⟩
  · have hf2 := hf1.kept0 hk2
    have hv2 := hv1.kept0 hk2
    have hr2 := hr1.kept0 hk2
    refine xE_call CF_16 (put_ok (vs := vs1) hf2 hs1 (by omega) hv2 hr2.1 hr2.2 (by omega) hvs1) ?_
    intro r w3 hp
    have hk3 : Kept [] w2 w3 := by
      unfold PutPost at hp
      cases hg : gramPut fs1 vs1 with
      | error e => rw [hg] at hp; exact hp.2
      | ok b => rw [hg] at hp; obtain ⟨u, _, hfr⟩ := hp; exact hfr.keptI
    have hk03 := hk02.then hk3 (by simp)
    have hk13 := hk2.then hk3 (by simp)
    cases hg : gramPut fs1 vs1 with
    | error e =>
      obtain ⟨ei, ek⟩ := e
      have hek := gramPut_err hg
      simp only at hek
      unfold PutPost at hp
      rw [hg] at hp
      obtain ⟨rfl, _⟩ := hp
      simp only [xP_ex0, xP_ex1]
      refine xE_call CF_25 (dput_ok (vs := vs1) (hf1.kept0 hk13) hs1 (by omega) (hv1.kept0 hk13) (hr1.kept0 hk13).1 (hr1.kept0 hk13).2 (by omega) hvs1) ?_
      intro r4 w4 hp4
      unfold DPutPost at hp4
      rw [hg] at hp4
      obtain ⟨rfl, hk4⟩ := hp4
      have hk04 := hk03.then hk4 (by simp)
      simp only [xP_t0, xP_t1, xP_t2]
      refine xE_call CF_19 (where_ok (e := .flt opPut ei (.no ek)) trivial (by simp [Er.faults]) (hgl.kept0 hk04)) ?_
      rintro _ w5 ⟨rfl, hk5⟩
      simp only [whereV, Er.where?, xP_t0, xP_t1, xP_t2]
      have hk05 := hk04.then hk5 (by simp)
      refine xE_call CF_17 (sameB_ok (xs := []) (ys := []) (SlT.nil_ _ _) (SlT.nil_ _ _) (by simp)) ?_
      rintro _ w6 ⟨rfl, hk6⟩
      simp only [decide_true, xIf_true]
      have hk06 := hk05.then hk6 (by simp)
      refine kindE_ok (e := .flt opPut ei (.no ek)) (k := ek) trivial rfl (hgl.kept0 hk06) fun w7 hk7 => ?_
      have hk07 := hk06.then hk7 (by simp)
      simp only [xR_eql, decide_true, xIf_true, xR_neq]
      refine (xR_eqlBool BOOLG).2 ?_
      rw [decide_eq_true (show ek ≠ 0 by omega)]
      simp only [beq_self_eq_true, xIf_true, xP_not, Bool.not_true, xIf_false]
      refine xR_eqlStr.2 ?_
      rw [show decide (opPut = ByteArray.mk #[103, 114, 97, 109, 46, 80, 117, 116]) = true from decide_eq_true rfl]
      simp only [xIf_true, xR_eql, decide_true]
      exact runsG hgl hk07
    | ok b =>
      unfold PutPost at hp
      rw [hg] at hp
      obtain ⟨u, rfl, hfr3⟩ := hp
      simp only [xP_ex0, xP_ex1]
      refine xE_call CF_25 (dput_ok (vs := vs1) (hf1.kept0 hk13) hs1 (by omega) (hv1.kept0 hk13) (hr1.kept0 hk13).1 (hr1.kept0 hk13).2 (by omega) hvs1) ?_
      intro r4 w4 hp4
      unfold DPutPost at hp4
      rw [hg] at hp4
      obtain ⟨u', rfl, hfr4⟩ := hp4
      have hk4 := hfr4.keptI
      have hk04 := hk03.then hk4 (by simp)
      simp only [xP_t0, xP_t1, xP_t2]
      refine xE_call CF_19 whereNil_ok ?_
      rintro _ w5 ⟨rfl, hk5⟩
      simp only [whereV, xP_t0, xP_t1, xP_t2]
      have hk05 := hk04.then hk5 (by simp)
      have hbb := gramPut_bound hg
      have hbb2 : fs1.length * 16711936 ≤ 6 * 16711936 := Nat.mul_le_mul_right _ hl1
      refine xE_call CF_17 (sameB_ok ((hfr3.slT.kept0 hk4).kept0 hk5) (hfr4.slT.kept0 hk5) (by omega)) ?_
      rintro _ w6 ⟨rfl, hk6⟩
      simp only [decide_true, xIf_true]
      have hk06 := hk05.then hk6 (by simp)
      refine xE_call CF_20 kindNil_ok ?_
      rintro _ w7 ⟨rfl, hk7⟩
      have hk07 := hk06.then hk7 (by simp)
      simp only [xR_eql, decide_true, xIf_true, xR_neq, show decide ((0 : Int) ≠ 0) = false from rfl]
      refine (xR_eqlBool BOOLG).2 ?_
      simp only [beq_self_eq_true, xIf_true, xP_not, Bool.not_false]
      exact runsG hgl hk07

theorem greads_ok {fs : List GFd} {raws : List RawV} {vs : List GVl} {fv vv bv : Value} {b : List UInt8} {n : Int} {c : UInt8} {w : World} (hgl : Glob w) (hf : SlT w encF fv fs) (hs : small fs) (hv : SlT w encV vv raws) (hr : IsRow w raws vs) (hb : SlT w encB bv b) :
    Gives Tryd.prog 5 #[fv, vv, bv, .int .i64 n, .int .u8 c.toNat] w fun u w' => u = .bool true ∧ Kept [] w w' := by
  refine C_stavelaw2_GramReads ?_
  unfold S_stavelaw2_GramReads
  refine xE_call CF_22 (few_ok hf hv hr) ?_
  rintro _ w1 ⟨f1, v1, raws1, rfl, hf1, hv1, hr1, hk1⟩
  simp only [xP_ex0, xP_ex1]
  have hs1 := small_take hs 6
  have hl1 : (fs.take 6).length ≤ 6 := by rw [List.length_take]; omega
  have hvl1 := fewV_len vs
  have hvs1 := fewV_small vs
  generalize fs.take 6 = fs1 at *
  generalize fewV vs = vs1 at *
  refine cutS (m := 80) (hb.kept0 hk1) (by omega) fun u2 w2 F2 ho2 hF2 hk2 => ?_
  have hk02 := hk1.then hk2 (by simp)
  refine xJoin_of (fun vs' w' => ∃ v own, vs' = [v] ∧ SlT w' encB v own ∧ own.length ≤ 200000000 ∧ Kept [] w2 w') ?_ ?_
  · refine xE_call CF_25 (dput_ok (vs := vs1) (hf1.kept0 hk2) hs1 (by omega) (hv1.kept0 hk2) (hr1.kept0 hk2).1 (hr1.kept0 hk2).2 (by omega) hvs1) ?_
    intro r3 w3 hp3
    unfold DPutPost at hp3
    cases hg : gramPut fs1 vs1 with
    | error e =>
      rw [hg] at hp3
      have hek := gramPut_err hg
      obtain ⟨rfl, hk3⟩ := hp3
      simp only [xP_t0, xP_t1, xP_t2]
      refine xJoin_one ?_
      simp only [xR_eql]
      rw [decide_eq_false (show ¬ e.2 = 0 by omega)]
      simp only [xIf_false]
      intro _
      try simp only [xP_nil, xP_pick, xP_func, xP_not, xP_add, xP_sub, xP_mul, xP_lss, xP_leq, xP_gtr, xP_geq, xP_max2, xP_min2, xR_eql, xR_neq, Nat.zero_add, Nat.add_zero, Nat.reduceAdd, List.getD_cons_zero, List.getD_cons_succ, xIf_true, xIf_false, FA_23_0, FA_23_1, FA_23_2, FA_23_3, FA_23_4, FA_32_0, FA_32_1, FA_32_2, FA_63_0, FA_63_1, FA_63_2, FA_63_3, FA_80_0, FA_80_1, FA_80_2, FA_85_0, FA_85_1, FA_85_2, LEN_24, LEN_25, LEN_30, LEN_33, LEN_58, LEN_82, LEN_134]
      exact ⟨u2, _, rfl, (ownBytes ho2).kept0 hk3, by rw [List.length_take]; omega, hk3⟩
    | ok p =>
      rw [hg] at hp3
      obtain ⟨u3, rfl, F3, ho3, hF3, hk3⟩ := hp3
      have hbb := gramPut_bound hg
      have hbb2 : fs1.length * 16711936 ≤ 6 * 16711936 := Nat.mul_le_mul_right _ hl1
      simp only [xP_t0, xP_t1, xP_t2]
      refine xJoin_of (fun vs' w' => vs' = [.bool (decide ((0 : Int) < p.length))] ∧ w3 = w') ?_ ?_
      · obtain ⟨pa, pc, rfl, _, _⟩ := ho3.slice
        simp only [xP_nil, xP_pick, xP_func, xP_not, xP_add, xP_sub, xP_mul, xP_lss, xP_leq, xP_gtr, xP_geq, xP_max2, xP_min2, xR_eql, xR_neq, Nat.zero_add, Nat.add_zero, Nat.reduceAdd, List.getD_cons_zero, List.getD_cons_succ, xIf_true, xIf_false, FA_23_0, FA_23_1, FA_23_2, FA_23_3, FA_23_4, FA_32_0, FA_32_1, FA_32_2, FA_63_0, FA_63_1, FA_63_2, FA_63_3, FA_80_0, FA_80_1, FA_80_2, FA_85_0, FA_85_1, FA_85_2, LEN_24, LEN_25, LEN_30, LEN_33, LEN_58, LEN_82, LEN_134, decide_true]
        exact ⟨trivial, trivial⟩
      rintro _ _ _ ⟨rfl, rfl⟩
      simp only [List.getD_cons_zero, xIf_dec]
      refine ⟨fun hpos => ?_, fun hz => ⟨u2, _, rfl, (ownBytes ho2).kept0 hk3, by rw [List.length_take]; omega, hk3⟩⟩
      refine flipS (c := c) ho3 (by omega) (by omega) fun i hi w4 ho4 hk4 => ?_
      exact ⟨u3, p.set i (p[i] ^^^ c), rfl, by have := ho4; rw [show p.length = (p.set i (p[i] ^^^ c)).length by simp] at this; exact ownBytes this, by rw [List.length_set]; omega, hk3.then hk4 (fun g hg => .inr (hF3 g hg))⟩
  · rintro _ _ w3 ⟨v, own, rfl, hown, hol, hk3⟩
    have hk03 := hk02.then hk3 (by simp)
    have hk13 := hk2.then hk3 (by simp)
    simp only [List.getD_cons_zero]
    refine xE_call CF_27 (roomyB_ok (m := 7) hown (by omega)) ?_
    rintro _ w4 ⟨g, rfl, hg4, hgw, hk4⟩
    obtain ⟨oa, oc, rfl, hoc, hor⟩ := hown
    have hown : SlT w3 encB (.slice oa own.length oc) own := ⟨oa, oc, rfl, hoc, hor⟩
    have hfull : SlT w4 encB (.slice (some ⟨g, 0, none⟩) (own.length + 80) (own.length + 80)) (own ++ List.replicate 80 7) := by
      have := slT_blk (l := own ++ List.replicate 80 (7 : UInt8)) hg4
      rwa [List.length_append, List.length_replicate] at this
    simp only [xP_nil, xP_pick, xP_func, xP_not, xP_add, xP_sub, xP_mul, xP_lss, xP_leq, xP_gtr, xP_geq, xP_max2, xP_min2, xR_eql, xR_neq, Nat.zero_add, Nat.add_zero, Nat.reduceAdd, List.getD_cons_zero, List.getD_cons_succ, xIf_true, xIf_false, FA_23_0, FA_23_1, FA_23_2, FA_23_3, FA_23_4, FA_32_0, FA_32_1, FA_32_2, FA_63_0, FA_63_1, FA_63_2, FA_63_3, FA_80_0, FA_80_1, FA_80_2, FA_85_0, FA_85_1, FA_85_2, LEN_24, LEN_25, LEN_30, LEN_33, LEN_58, LEN_82, LEN_134]
    refine (xP_upto SL_25 SZ_5 (by omega) (by omega)).2 ?_
    rw [Int.toNat_natCast]
    have hcut := SlT.upto (j := own.length) encB_len (by have := hfull; rw [show own.length + 80 = (own ++ List.replicate 80 (7 : UInt8)).length by simp] at this; exact this) (by simp)
    rw [List.take_left] at hcut
    have hcut' : SlT w4 encB (.slice (if own.length + 80 = 0 then some ⟨g, 0, none⟩ else (some (⟨g, 0, none⟩ : Addr)).map (·.add (0 * 1))) own.length (own.length + 80)) own := by
      have := hcut
      rw [List.length_append, List.length_replicate] at this
      exact this
    have hk14 := hk13.then hk4 (by simp)
    refine xE_call CF_18 (get_ok (hf1.kept0 hk14) hs1 (by omega) hcut' (by omega)) ?_
    rintro r5 w5 ⟨hk5, hg5⟩
    have hk15 := hk14.then hk5 (by simp)
    have hk05 := hk1.then hk15 (by simp)
    have hk35 := hk4.then hk5 (by simp)
    -- what was got
    obtain ⟨gv, rg, gs, er, rfl, hgv, hgr, hgl2, hres⟩ : ∃ (gv : Value) (rg : List RawV) (gs : List GVl) (er : Option Er), r5 = .tuple #[gv, optV er] ∧ SlT w5 encV gv rg ∧ IsRow w5 rg gs ∧ (gs.length ≤ 1000000 ∧ ∀ y ∈ gs, y.l.length ≤ 9223372036854775806) ∧
        ((er = none ∧ gramGet fs1 own = .ok gs) ∨ ∃ i k, k ≠ 0 ∧ er = some (.flt opGet i (.no k)) ∧ gramGet fs1 own = .error (i, k) ∧ gs = []) := by
      cases hgg : gramGet fs1 own with
      | error e =>
        obtain ⟨ei, ek⟩ := e
        rw [hgg] at hg5
        refine ⟨.slice none 0 0, [], [], some (.flt opGet ei (.no ek)), hg5, SlT.nil_ _ _, IsRow.nil _, by simp, .inr ⟨ei, ek, gramGet_err hgg, rfl, rfl, rfl⟩⟩
      | ok gs =>
        rw [hgg] at hg5
        obtain ⟨o, rg, hu, ho, hrow, _⟩ := hg5
        refine ⟨o, rg, gs, none, hu, ho, hrow, ⟨by rw [gramGet_len hgg]; omega, fun y hy => by have := getRest_small (gramGet_ok hgg).1 y hy; omega⟩, .inl ⟨rfl, rfl⟩⟩
    simp only [xP_ex0, xP_ex1]
    refine xE_call CF_28 (dget_ok (hf1.kept0 hk15) hs1 (by omega) (hown.kept0 hk35) (by omega)) ?_
    rintro r6 w6 ⟨hk6, hg6⟩
    have hk06 := hk05.then hk6 (by simp)
    obtain ⟨dv, rd, rfl, hdv, hdr⟩ : ∃ (dv : Value) (rd : List RawV), r6 = .tuple #[dv, .int .i64 (optKind er), .int .i64 ((optWhere er).map (·.2) |>.getD 0)] ∧ SlT w6 encV dv rd ∧ IsRow w6 rd gs := by
      rcases hres with ⟨rfl, hgg⟩ | ⟨i, k, hk0, rfl, hgg, rfl⟩
      · rw [hgg] at hg6
        obtain ⟨o, rd, hu, ho, hrow, _⟩ := hg6
        exact ⟨o, rd, hu, ho, hrow⟩
      · rw [hgg] at hg6
        exact ⟨.slice none 0 0, [], hg6.1, SlT.nil_ _ _, IsRow.nil _⟩
    simp only [xP_t0, xP_t1, xP_t2]
    have hplain : ∀ x, er = some x → Er.plain x ∧ (Er.faults x).length ≤ 1000 := fun x hx => by
      rcases hres with ⟨rfl, _⟩ | ⟨i, k, _, rfl, _, _⟩
      · cases hx
      · cases hx; exact ⟨trivial, by simp [Er.faults]⟩
    refine xE_call CF_19 (whereO_ok hplain (hgl.kept0 hk06)) ?_
    rintro _ w7 ⟨rfl, hk7⟩
    have hk07 := hk06.then hk7 (by simp)
    have hk57 := hk6.then hk7 (by simp)
    have hk37 := hk35.then hk57 (by simp)
    have hk47 := hk5.then hk57 (by simp)
    -- the end, as it is alike
    have fin : ∀ (w8 : World), Kept [] w7 w8 → xE Tryd.prog (sCall 30 #[.slice (some ⟨g, 0, none⟩) (own.length + 80) (own.length + 80), .slice oa own.length oc, .int .u8 7]) w8 fun v120 w64 => xIf v120 (xE Tryd.prog (sCall 3 #[]) w64 fun v w'' => Ret (fun u w' => u = .bool true ∧ Kept [] w w') (.returned v) w'') (Ret (fun u w' => u = .bool true ∧ Kept [] w w') (.returned (.bool false)) w64) := by
      intro w8 hk8
      refine xE_call CF_30 (intactB_ok (m := 7) (full := own ++ List.replicate 80 7) (was := own) ((hfull.kept0 hk47).kept0 hk8) ((hown.kept0 hk37).kept0 hk8) (by omega) rfl) ?_
      rintro _ w9 ⟨rfl, hk9⟩
      simp only [xIf_true]
      exact runsG hgl ((hk07.then hk8 (by simp)).then hk9 (by simp))
    have mid : ∀ (K : Value → World → Prop), (∀ w8, Kept [] w7 w8 → K (.bool true) w8) → xE Tryd.prog (sCall 29 #[gv, dv]) w7 K := fun K hK =>
      xE_call CF_29 (same_ok (hgv.kept0 hk57) (hgr.kept0 hk57) (hdv.kept0 hk7) (hdr.kept0 hk7) hgl2.1 hgl2.2) (fun u w8 ⟨h1, h2⟩ => by subst h1; rw [decide_eq_true rfl]; exact hK w8 h2)
    rcases hres with ⟨rfl, hgg⟩ | ⟨i, k, hk0, rfl, hgg, rfl⟩
    · simp only [optWhere, whereV, xP_t0, xP_t1, xP_t2]
      refine mid _ fun w8 hk8 => ?_
      simp only [xIf_true]
      refine kindS (e := none) (fun _ h => by cases h) (hgl.kept0 (hk07.then hk8 (by simp))) fun w9 hk9 => ?_
      simp only [optKind, xR_eql, decide_true, xIf_true, xR_neq, show decide ((0 : Int) ≠ 0) = false from rfl]
      refine (xR_eqlBool BOOLG).2 ?_
      simp only [beq_self_eq_true, xIf_true, xP_not, Bool.not_false]
      exact fin w9 (hk8.then hk9 (by simp))
    · simp only [optWhere, Er.where?, whereV, xP_t0, xP_t1, xP_t2]
      refine mid _ fun w8 hk8 => ?_
      simp only [xIf_true]
      refine kindS (e := some (.flt opGet i (.no k))) (fun _ h => by cases h; trivial) (hgl.kept0 (hk07.then hk8 (by simp))) fun w9 hk9 => ?_
      simp only [optKind, Er.kind, xR_eql, decide_true, xIf_true, xR_neq]
      refine (xR_eqlBool BOOLG).2 ?_
      rw [decide_eq_true (show k ≠ 0 from hk0)]
      simp only [beq_self_eq_true, xIf_true, xP_not, Bool.not_true, xIf_false]
      refine xR_eqlStr.2 ?_
      rw [show decide (opGet = ByteArray.mk #[103, 114, 97, 109, 46, 71, 101, 116]) = true from decide_eq_true rfl]
      simp only [xIf_true, xR_eql, Option.map_some, Option.getD_some, decide_true]
      exact fin w9 (hk8.then hk9 (by simp))
end Go.Proofs.YtclojjiiiejfpaaDoor
