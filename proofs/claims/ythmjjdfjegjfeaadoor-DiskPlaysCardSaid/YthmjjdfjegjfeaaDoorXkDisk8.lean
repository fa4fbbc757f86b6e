import Derived.Test.YthmjjdfjegjfeaaDoorXkDisk7
namespace Go.Proofs.YthmjjdfjegjfeaaDoor
set_option linter.unusedSimpArgs false
set_option linter.unusedVariables false
set_option maxRecDepth 100000
attribute [local irreducible] Go.X.xE
open Go Go.X Go.RowKit

theorem isSome_wt {S : List Rw} {W : List (Int × Rw)} {R : List (Int × Bool)} {D : Dk} (h : Abs S W R D) (i : Nat) : (mget W (i : Int)).isSome = (D.wt i).isSome := by rw [← h.2.1 i]; cases mget W (i : Int) <;> rfl
theorem rflushD_ok {p : Nat} {D : Dk} {F : List Nat} {w : World} (h : RI w p D F) :
    Gives Tryd.prog 27 #[.pointer (some ⟨p, 0, none⟩)] w fun u w' => ∃ F', u = .int .i64 (D.refK 0 false) ∧ RI w' p (if D.dead then D else D.flush) F' ∧ Kept F w w' ∧ ∀ g ∈ F', g ∈ F ∨ w.heap.size ≤ g := by
  have hsec := DkI.secs h
  have hwt := DkI.waits h
  refine C_staveref1_Disk_Flush ?_
  unfold S_staveref1_Disk_Flush
  have h' := h
  obtain ⟨lb, o, cap, wm, rm, S, W, R, h1, h2, rfl⟩ := h
  have hsl : S.length = D.sec.length := by rw [← h2.1, List.length_map]
  obtain ⟨L0, L1, L2, L3⟩ := h1.ld
  simp only [xP_nil, xP_pick, xP_func, xP_not, xP_add, xP_sub, xP_mul, xP_lss, xP_leq, xP_gtr, xP_geq, xP_max2, xP_min2, xR_eql, xR_neq, Nat.zero_add, Nat.add_zero, Nat.reduceAdd, List.getD_cons_zero, List.getD_cons_succ, xIf_true, xIf_false, FA_44_0, FA_44_1, FA_44_2, FA_44_3, FA_44_4, FA_44_5, FA_63_0, FA_63_1, FA_63_2, FA_63_3, FA_71_0, FA_71_1, FA_71_2, FA_71_3, FA_81_2, LEN_28, LEN_40, LEN_46, LEN_59, LEN_106, L3]
  cases hdd : D.dead with
  | true =>
    have hk : D.refK 0 false = 5 := by unfold Dk.refK; rw [hdd]; rfl
    rw [hk]
    simp only [xIf_true, if_true]
    exact ⟨_, rfl, h', Kept.refl _ _, fun g hg => .inl hg⟩
  | false =>
    have hk : D.refK 0 false = 0 := refK_ok hdd hsec.1
    rw [hk]
    simp only [xIf_false, Bool.false_eq_true, if_false, L0, xP_nil, xP_pick, xP_func, xP_not, xP_add, xP_sub, xP_mul, xP_lss, xP_leq, xP_gtr, xP_geq, xP_max2, xP_min2, xR_eql, xR_neq, Nat.zero_add, Nat.add_zero, Nat.reduceAdd, List.getD_cons_zero, List.getD_cons_succ, xIf_true, xIf_false, FA_44_0, FA_44_1, FA_44_2, FA_44_3, FA_44_4, FA_44_5, FA_63_0, FA_63_1, FA_63_2, FA_63_3, FA_71_0, FA_71_1, FA_71_2, FA_71_3, FA_81_2, LEN_28, LEN_40, LEN_46, LEN_59, LEN_106]
    refine xLoop_of (fun ls w' => ∃ (i : Nat) (R' : List (Int × Bool)), ls = [.int .i64 i] ∧ i ≤ S.length ∧ Mid 63 w' p lb o cap wm rm S W R' ((mixS S W fun j => decide (j < i)).map Rw.v) D.dead ∧ (∀ j : Nat, (mget R' (j : Int)).getD false = if (decide (j < i) && (D.wt j).isSome) then false else D.rot j) ∧ Kept [lb, rm] w w')
      (fun ls _ => match ls with | [.int _ i] => S.length - i.toNat | _ => 0) ⟨0, R, rfl, by omega, by simp only [Nat.not_lt_zero, decide_false, mixS_none]; exact h1, by simpa using h2.2.2, Kept.refl _ _⟩ ?_
    rintro _ _ w1 ⟨i, R', rfl, hi, hm, hR, hk1⟩
    simp only [xP_nil, xP_pick, xP_func, xP_not, xP_add, xP_sub, xP_mul, xP_lss, xP_leq, xP_gtr, xP_geq, xP_max2, xP_min2, xR_eql, xR_neq, Nat.zero_add, Nat.add_zero, Nat.reduceAdd, List.getD_cons_zero, List.getD_cons_succ, xIf_true, xIf_false, FA_44_0, FA_44_1, FA_44_2, FA_44_3, FA_44_4, FA_44_5, FA_63_0, FA_63_1, FA_63_2, FA_63_3, FA_71_0, FA_71_1, FA_71_2, FA_71_3, FA_81_2, LEN_28, LEN_40, LEN_46, LEN_59, LEN_106, xIf_dec]
    refine ⟨fun hlt => ?_, fun hge => ?_⟩
    · refine xE_call CF_43 (keep_ok hm) ?_
      rintro _ w2 ⟨h3, hk2⟩
      rw [keep_mix] at h3
      have hfn : (fun j : Nat => decide (j < i) || decide (j = i)) = fun j => decide (j < i + 1) := by
        funext j
        by_cases h : j = i
        · subst h; simp
        · have : decide (j < i) = decide (j < i + 1) := decide_eq_decide.2 (by omega)
          simp [h, this]
      rw [hfn] at h3
      rw [wrap64 (by omega) (by omega)]
      refine ⟨⟨i + 1, _, rfl, by omega, h3, fun j => ?_, hk1.then hk2 (fun g hg => .inl hg)⟩, by omega⟩
      rw [isSome_wt h2]
      by_cases hj : j = i
      · subst hj
        cases hs : (D.wt j).isSome with
        | true =>
          rw [if_pos rfl, mget_set, if_pos rfl]
          simp
        | false =>
          rw [if_neg (by simp), hR j, hs]
          simp
      · have e : decide (j < i + 1) = decide (j < i) := decide_eq_decide.2 (by omega)
        rw [e]
        split
        · rw [mget_set, if_neg (by omega)]; exact hR j
        · exact hR j
    · obtain rfl : i = S.length := by omega
      have hmix : (mixS S W fun j => decide (j < S.length)) = mixS S W fun j => (D.wt j).isSome := by
        apply List.ext_getElem?
        intro j
        rw [mixS_get, mixS_get]
        rcases Nat.lt_or_ge j S.length with hl | hl
        · rw [List.getElem?_eq_getElem hl]
          simp only [hl, decide_true, if_true, Option.map_some, Option.some.injEq]
          rw [← isSome_wt h2]
          cases mget W (j : Int) <;> rfl
        · rw [List.getElem?_eq_none (by omega)]; rfl
      rw [hmix] at hm
      have hz1 := hk1.size
      refine hm.drained h2 rfl (fun j => ?_) fun w2 F' hD hk2 hF' => ?_
      · rw [hR j]
        cases hs : (D.wt j).isSome with
        | true =>
          obtain ⟨x, hx⟩ := Option.isSome_iff_exists.1 hs
          have := (hwt j x hx).1
          simp
          omega
        | false => simp
      · exact ⟨F', rfl, hD, (hk1.mono (fun g hg => .inl (by simp at hg; rcases hg with rfl | rfl <;> simp [frm]))).then hk2 (fun g hg => .inl (by simp at hg; subst hg; simp [frm])), fun g hg => (hF' g hg).imp id (fun h => by omega)⟩
theorem cnt_succ (D : Dk) (i : Nat) : D.cnt (i + 1) = D.cnt i + if (D.wt i).isSome then 1 else 0 := by
  unfold Dk.cnt
  rw [List.range_succ, List.filter_append, List.length_append]
  congr 1
  cases h : (D.wt i).isSome <;> simp [h]
theorem rcrashD_ok {p : Nat} {D : Dk} {F : List Nat} {bits : Int} {w : World} (h : RI w p D F) :
    Gives Tryd.prog 28 #[.pointer (some ⟨p, 0, none⟩), .int .u64 bits] w fun u w' => ∃ F', RI w' p (D.crash bits) F' ∧ Kept F w w' ∧ ∀ g ∈ F', g ∈ F ∨ w.heap.size ≤ g := by
  have hsec := DkI.secs h
  have hwt := DkI.waits h
  refine C_staveref1_Disk_Crash ?_
  unfold S_staveref1_Disk_Crash
  obtain ⟨lb, o, cap, wm, rm, S, W, R, h1, h2, rfl⟩ := h
  have hsl : S.length = D.sec.length := by rw [← h2.1, List.length_map]
  obtain ⟨L0, L1, L2, L3⟩ := h1.ld
  simp only [xP_nil, xP_pick, xP_func, xP_not, xP_add, xP_sub, xP_mul, xP_lss, xP_leq, xP_gtr, xP_geq, xP_max2, xP_min2, xR_eql, xR_neq, Nat.zero_add, Nat.add_zero, Nat.reduceAdd, List.getD_cons_zero, List.getD_cons_succ, xIf_true, xIf_false, FA_44_0, FA_44_1, FA_44_2, FA_44_3, FA_44_4, FA_44_5, FA_63_0, FA_63_1, FA_63_2, FA_63_3, FA_71_0, FA_71_1, FA_71_2, FA_71_3, FA_81_2, LEN_28, LEN_40, LEN_46, LEN_59, LEN_106, L0]
  have hcl : ∀ i, D.cnt i ≤ i := fun i => by
    have := List.length_filter_le (fun i => (D.wt i).isSome) (List.range i)
    rwa [List.length_range] at this
  refine xLoop_of (fun ls w' => ∃ (i : Nat) (R' : List (Int × Bool)), ls = [.int .i64 (D.cnt i), .int .i64 i] ∧ i ≤ S.length ∧ Mid 63 w' p lb o cap wm rm S W R' ((mixS S W fun j => decide (j < i) && D.crashS bits j).map Rw.v) D.dead ∧ (∀ j : Nat, (mget R' (j : Int)).getD false = if (decide (j < i) && D.crashS bits j) then false else D.rot j) ∧ Kept [lb, rm] w w')
    (fun ls _ => match ls with | [_, .int _ i] => S.length - i.toNat | _ => 0) ⟨0, R, rfl, by omega, by simp only [Nat.not_lt_zero, decide_false, Bool.false_and, mixS_none]; exact h1, by simpa using h2.2.2, Kept.refl _ _⟩ ?_
  rintro _ _ w1 ⟨i, R', rfl, hi, hm, hR, hk1⟩
  obtain ⟨M0, M1, M2, M3⟩ := hm.ld
  simp only [xP_nil, xP_pick, xP_func, xP_not, xP_add, xP_sub, xP_mul, xP_lss, xP_leq, xP_gtr, xP_geq, xP_max2, xP_min2, xR_eql, xR_neq, Nat.zero_add, Nat.add_zero, Nat.reduceAdd, List.getD_cons_zero, List.getD_cons_succ, xIf_true, xIf_false, FA_44_0, FA_44_1, FA_44_2, FA_44_3, FA_44_4, FA_44_5, FA_63_0, FA_63_1, FA_63_2, FA_63_3, FA_71_0, FA_71_1, FA_71_2, FA_71_3, FA_81_2, LEN_28, LEN_40, LEN_46, LEN_59, LEN_106, xIf_dec]
  refine ⟨fun hlt => ?_, fun hge => ?_⟩
  · have hstep : ∀ j : Nat, (decide (j < i + 1) && D.crashS bits j) = ((decide (j < i) && D.crashS bits j) || (decide (j = i) && D.crashS bits i)) := by
      intro j
      by_cases hj : j = i
      · subst hj; simp
      · have e : decide (j < i + 1) = decide (j < i) := decide_eq_decide.2 (by omega)
        rw [e]; simp [hj]
    have hno : D.crashS bits i = false → Mid 63 w1 p lb o cap wm rm S W R' ((mixS S W fun j => decide (j < i + 1) && D.crashS bits j).map Rw.v) D.dead ∧ ∀ j : Nat, (mget R' (j : Int)).getD false = if (decide (j < i + 1) && D.crashS bits j) then false else D.rot j := by
      intro hf
      have hfn : (fun j : Nat => decide (j < i) && D.crashS bits j) = fun j => decide (j < i + 1) && D.crashS bits j := by
        funext j
        rw [hstep j, hf, Bool.and_false, Bool.or_false]
      rw [hfn] at hm
      exact ⟨hm, fun j => by rw [hR j]; exact congrArg (fun b : Bool => if b then false else D.rot j) (congrFun hfn j)⟩
    refine xJoin_of (fun ls w' => ls = [.int .i64 (D.cnt (i + 1))] ∧ ∃ (R' : List (Int × Bool)), Mid 63 w' p lb o cap wm rm S W R' ((mixS S W fun j => decide (j < i + 1) && D.crashS bits j).map Rw.v) D.dead ∧ (∀ j : Nat, (mget R' (j : Int)).getD false = if (decide (j < i + 1) && D.crashS bits j) then false else D.rot j) ∧ Kept [lb, rm] w w') ?_ ?_
    · simp only [M1]
      refine (xR_lookupOk MP_60 hm.mw Z_28).2 ?_
      simp only [xP_ex0, xP_ex1]
      rw [isSome_wt h2, xIf_bool]
      refine ⟨fun hs => ?_, fun hs => ?_⟩
      · have hci := hcl i
        have hle := h1.le
        refine xJoin_of (fun ls w' => ∃ (R' : List (Int × Bool)), Mid 63 w' p lb o cap wm rm S W R' ((mixS S W fun j => decide (j < i + 1) && D.crashS bits j).map Rw.v) D.dead ∧ (∀ j : Nat, (mget R' (j : Int)).getD false = if (decide (j < i + 1) && D.crashS bits j) then false else D.rot j) ∧ Kept [lb, rm] w w') ?_ ?_
        · refine (xP_rem (by omega)).2 ?_
          rw [show (((D.cnt i : Nat) : Int).tmod 64) = ((D.cnt i % 64 : Nat) : Int) by rw [Int.tmod_eq_emod_of_nonneg (by omega)]; omega]
          refine (xP_shr (by omega)).2 ?_
          refine xP_and.2 ?_
          simp only [xP_nil, xP_pick, xP_func, xP_not, xP_add, xP_sub, xP_mul, xP_lss, xP_leq, xP_gtr, xP_geq, xP_max2, xP_min2, xR_eql, xR_neq, Nat.zero_add, Nat.add_zero, Nat.reduceAdd, List.getD_cons_zero, List.getD_cons_succ, xIf_true, xIf_false, FA_44_0, FA_44_1, FA_44_2, FA_44_3, FA_44_4, FA_44_5, FA_63_0, FA_63_1, FA_63_2, FA_63_3, FA_71_0, FA_71_1, FA_71_2, FA_71_3, FA_81_2, LEN_28, LEN_40, LEN_46, LEN_59, LEN_106]
          rw [Int.toNat_natCast]
          have hcs : D.crashS bits i = bit1 bits (D.cnt i % 64) := by unfold Dk.crashS; rw [hs, Bool.true_and]
          show xIf (.bool (bit1 bits (D.cnt i % 64))) _ _
          rw [← hcs, xIf_bool]
          refine ⟨fun hb => ?_, fun hb => ?_⟩
          · refine xE_call CF_43 (keep_ok hm) ?_
            rintro _ w2 ⟨h3, hk2⟩
            rw [keep_mix] at h3
            have hfn : (fun j : Nat => decide (j < i) && D.crashS bits j || decide (j = i)) = fun j => decide (j < i + 1) && D.crashS bits j := by
              funext j
              rw [hstep j, hb, Bool.and_true]
            rw [hfn] at h3
            refine ⟨_, h3, fun j => ?_, hk1.then hk2 (fun g hg => .inl hg)⟩
            rw [isSome_wt h2, hs, if_pos rfl, mget_set, hstep j, hb, Bool.and_true]
            by_cases hj : (i : Int) = j
            · have : j = i := by omega
              rw [if_pos hj, this]
              simp
            · have : ¬ j = i := by omega
              rw [if_neg hj, hR j]
              simp [this]
          · obtain ⟨h3, h4⟩ := hno hb
            exact ⟨R', h3, h4, hk1⟩
        rintro _ _ w2 ⟨R2, h3, h4, hk2⟩
        try simp only [xP_nil, xP_pick, xP_func, xP_not, xP_add, xP_sub, xP_mul, xP_lss, xP_leq, xP_gtr, xP_geq, xP_max2, xP_min2, xR_eql, xR_neq, Nat.zero_add, Nat.add_zero, Nat.reduceAdd, List.getD_cons_zero, List.getD_cons_succ, xIf_true, xIf_false, FA_44_0, FA_44_1, FA_44_2, FA_44_3, FA_44_4, FA_44_5, FA_63_0, FA_63_1, FA_63_2, FA_63_3, FA_71_0, FA_71_1, FA_71_2, FA_71_3, FA_81_2, LEN_28, LEN_40, LEN_46, LEN_59, LEN_106]
        rw [wrap64 (by omega) (by omega)]
        refine ⟨?_, R2, h3, h4, hk2⟩
        rw [cnt_succ, hs]
        rfl
      · obtain ⟨h3, h4⟩ := hno (by unfold Dk.crashS; rw [hs]; rfl)
        refine ⟨?_, R', h3, h4, hk1⟩
        rw [cnt_succ, hs]
        rfl
    rintro _ _ w2 ⟨rfl, R2, h3, h4, hk2⟩
    have hle := h1.le
    try simp only [xP_nil, xP_pick, xP_func, xP_not, xP_add, xP_sub, xP_mul, xP_lss, xP_leq, xP_gtr, xP_geq, xP_max2, xP_min2, xR_eql, xR_neq, Nat.zero_add, Nat.add_zero, Nat.reduceAdd, List.getD_cons_zero, List.getD_cons_succ, xIf_true, xIf_false, FA_44_0, FA_44_1, FA_44_2, FA_44_3, FA_44_4, FA_44_5, FA_63_0, FA_63_1, FA_63_2, FA_63_3, FA_71_0, FA_71_1, FA_71_2, FA_71_3, FA_81_2, LEN_28, LEN_40, LEN_46, LEN_59, LEN_106]
    rw [wrap64 (by omega) (by omega)]
    exact ⟨⟨i + 1, R2, rfl, by omega, h3, h4, hk2⟩, by omega⟩
  · obtain rfl : i = S.length := by omega
    have hs : ∀ j, (decide (j < S.length) && D.crashS bits j) = D.crashS bits j := by
      intro j
      cases hj : D.crashS bits j with
      | false => simp
      | true =>
        have h0 : (D.wt j).isSome = true := by unfold Dk.crashS at hj; simp at hj; simpa using hj.1
        obtain ⟨x, hx⟩ := Option.isSome_iff_exists.1 h0
        have := (hwt j x hx).1
        simp
        omega
    rw [show (fun j : Nat => decide (j < S.length) && D.crashS bits j) = D.crashS bits from funext hs] at hm
    have hz1 := hk1.size
    refine hm.drained h2 rfl (fun j => by rw [hR j, hs j]) fun w2 F' hD hk2 hF' => ?_
    exact ⟨F', hD, (hk1.mono (fun g hg => .inl (by simp at hg; rcases hg with rfl | rfl <;> simp [frm]))).then hk2 (fun g hg => .inl (by simp at hg; subst hg; simp [frm])), fun g hg => (hF' g hg).imp id (fun h => by omega)⟩
/-- Another row in a sector's place. -/
theorem Mid.swap {T : TypeId} {w : World} {p lb o cap wm rm : Nat} {S : List Rw} {W : List (Int × Rw)} {R : List (Int × Bool)} {C : List Value} {dead : Bool} (h : Mid T w p lb o cap wm rm S W R C dead) {i : Nat} {r : Rw} (hr : r.Ok w) (hfr : ∀ g ∈ frm p lb wm rm S W, g ≠ r.b) :
    Mid T w p lb o cap wm rm (S.set i r) W R C dead := by
  have hnd := frm_split.1 h.nd
  have hmem : ∀ r' ∈ S.set i r, r' ∈ S ∨ r' = r := fun r' hr' => (List.mem_or_eq_of_mem_set hr')
  refine ⟨by rw [List.length_set]; exact h.blk, by rw [List.length_set]; exact h.own, h.mw, h.mr, fun r' hr' => ?_, fun q hq => by rw [List.length_set]; exact h.rw q hq, ?_, by rw [List.length_set]; exact h.pos, by rw [List.length_set]; exact h.le⟩
  · rcases hmem r' hr' with hr' | rfl
    · exact h.rs r' hr'
    · exact hr
  · refine frm_split.2 ⟨hnd.1, fun b hb => ⟨fun r' hr' => ?_, (hnd.2.1 b hb).2⟩, ?_, hnd.2.2.2.1, fun r' hr' q hq => ?_⟩
    · rcases hmem r' hr' with hr' | rfl
      · exact (hnd.2.1 b hb).1 r' hr'
      · exact fun e => hfr b (by simp at hb; rcases hb with rfl | rfl | rfl | rfl <;> simp [frm]) e.symm
    · refine List.pairwise_iff_getElem.2 fun j k hj hk hjk => ?_
      rw [List.getElem_map, List.getElem_map]
      have hj' : j < S.length := by simpa using hj
      have hk' : k < S.length := by simpa using hk
      have hold := List.pairwise_iff_getElem.1 hnd.2.2.1 j k (by simpa using hj') (by simpa using hk') hjk
      rw [List.getElem_map, List.getElem_map] at hold
      have hfS : ∀ m (hm : m < S.length), (S[m]).b ≠ r.b := fun m hm => hfr _ (by unfold frm; simp; exact .inr (.inr (.inr (.inr (.inl ⟨_, List.getElem_mem hm, rfl⟩)))))
      rw [List.getElem_set, List.getElem_set]
      split
      · split
        · omega
        · exact fun e => hfS k hk' e.symm
      · split
        · exact hfS j hj'
        · exact hold
    · rcases hmem r' hr' with hr' | rfl
      · exact hnd.2.2.2.2 r' hr' q hq
      · exact fun e => hfr q.2.b (by unfold frm; simp; exact .inr (.inr (.inr (.inr (.inr ⟨_, _, hq, rfl⟩))))) e.symm
theorem rrotD_ok {p : Nat} {D : Dk} {F : List Nat} {i at_ c : Int} {w : World} (h : RI w p D F) :
    Gives Tryd.prog 29 #[.pointer (some ⟨p, 0, none⟩), .int .i64 i, .int .i64 at_, .int .u32 c] w fun u w' => ∃ F', u = .bool (!D.rotBad i at_ c) ∧ RI w' p (if D.rotBad i at_ c then D else D.rotd i.toNat at_.toNat c) F' ∧ Kept F w w' ∧ ∀ g ∈ F', g ∈ F ∨ w.heap.size ≤ g := by
  refine C_staveref1_Disk_Rot ?_
  unfold S_staveref1_Disk_Rot
  have h' := h
  obtain ⟨lb, o, cap, wm, rm, S, W, R, h1, h2, rfl⟩ := h
  have hsl : S.length = D.sec.length := by rw [← h2.1, List.length_map]
  have hlt := h1.lt
  refine xJoin_of (fun ls w' => ls = [.bool (D.rotBad i at_ c)] ∧ w = w') ?_ ?_
  · obtain ⟨L0, L1, L2, L3⟩ := h1.ld
    simp only [xP_nil, xP_pick, xP_func, xP_not, xP_add, xP_sub, xP_mul, xP_lss, xP_leq, xP_gtr, xP_geq, xP_max2, xP_min2, xR_eql, xR_neq, Nat.zero_add, Nat.add_zero, Nat.reduceAdd, List.getD_cons_zero, List.getD_cons_succ, xIf_true, xIf_false, FA_44_0, FA_44_1, FA_44_2, FA_44_3, FA_44_4, FA_44_5, FA_63_0, FA_63_1, FA_63_2, FA_63_3, FA_71_0, FA_71_1, FA_71_2, FA_71_3, FA_81_2, LEN_28, LEN_40, LEN_46, LEN_59, LEN_106, L3]
    rw [xIf_bool]
    refine ⟨fun hd => ⟨by rw [rotBad_of (.inr (.inr (.inr (.inr (.inr hd)))))], trivial⟩, fun hd => ?_⟩
    refine hasS h' ?_
    simp only [xP_not]
    rw [xIf_bool]
    refine ⟨fun hh => ?_, fun hh => ?_⟩
    · have hh : ¬ (0 ≤ i ∧ i < (D.sec.length : Int)) := by simp at hh; omega
      exact ⟨by rw [rotBad_of (show _ ∨ _ from .inr (.inr (.inr (by omega))))], trivial⟩
    have hh : 0 ≤ i ∧ i < (D.sec.length : Int) := by simpa using hh
    try simp only [xP_lss, xP_gtr]
    simp only [xIf_dec]
    refine ⟨fun a1 => ⟨by rw [rotBad_of (.inl a1)], trivial⟩, fun a1 => ⟨fun a2 => ⟨by rw [rotBad_of (.inr (.inl a2))], trivial⟩, fun a2 => ?_⟩⟩
    try simp only [xR_eql, xIf_dec]
    refine ⟨fun a3 => ⟨by rw [rotBad_of (.inr (.inr (.inl a3)))], trivial⟩, fun a3 => ?_⟩
    obtain ⟨n, rfl⟩ := Int.eq_ofNat_of_zero_le hh.1
    obtain ⟨a, rfl⟩ := Int.eq_ofNat_of_zero_le (show 0 ≤ at_ by omega)
    simp only [xP_nil, xP_pick, xP_func, xP_not, xP_add, xP_sub, xP_mul, xP_lss, xP_leq, xP_gtr, xP_geq, xP_max2, xP_min2, xR_eql, xR_neq, Nat.zero_add, Nat.add_zero, Nat.reduceAdd, List.getD_cons_zero, List.getD_cons_succ, xIf_true, xIf_false, FA_44_0, FA_44_1, FA_44_2, FA_44_3, FA_44_4, FA_44_5, FA_63_0, FA_63_1, FA_63_2, FA_63_3, FA_71_0, FA_71_1, FA_71_2, FA_71_3, FA_81_2, LEN_28, LEN_40, LEN_46, LEN_59, LEN_106, L2]
    refine (xR_lookup MP_61 h1.mr ZB).2 ?_
    have e : ((mget R (n : Int)).map Value.bool).getD (.bool false) = .bool (D.rot n) := by
      rw [← h2.2.2 n]; cases mget R (n : Int) <;> rfl
    rw [e, rotBad_ok hd (by omega) a3 (by omega)]
    exact ⟨rfl, trivial⟩
  rintro _ _ _ ⟨rfl, rfl⟩
  simp only [List.getD_cons_zero]
  cases hbad : D.rotBad i at_ c with
  | true =>
    simp only [xIf_true, if_true, Bool.not_true]
    exact ⟨_, rfl, h', Kept.refl _ _, fun g hg => .inl hg⟩
  | false =>
    simp only [xIf_false, Bool.false_eq_true, if_false, Bool.not_false]
    have hb2 := hbad
    unfold Dk.rotBad at hbad
    simp only [Bool.or_eq_false_iff, Bool.not_eq_false'] at hbad
    have hk' := of_decide_eq_true hbad.1
    unfold Dk.refK at hk'
    split at hk'
    · cases hk'
    split at hk'
    · cases hk'
    rename_i hnd0 hno
    have hno : (¬ (at_ < 0 ∨ 124 < at_ ∨ c = 0)) ∧ ¬ i < 0 ∧ ¬ (D.sec.length : Int) ≤ i := by
      simp only [decide_eq_true_eq, not_or] at hno ⊢
      exact hno
    obtain ⟨n, rfl⟩ := Int.eq_ofNat_of_zero_le (show 0 ≤ i by omega)
    obtain ⟨a, rfl⟩ := Int.eq_ofNat_of_zero_le (show 0 ≤ at_ by omega)
    simp only [Int.toNat_natCast]
    have hn : n < S.length := by omega
    have hget : S[n]? = some S[n] := List.getElem?_eq_getElem hn
    have hx0 : D.sec.getD n [] = (S[n]).x := by rw [← h2.1, List.getD_eq_getElem?_getD, List.getElem?_map, hget]; rfl
    have hvs : (S.map Rw.v)[n]? = some (S[n]).v := by rw [List.getElem?_map, hget]; rfl
    have hrin : S[n] ∈ S := List.getElem_mem hn
    generalize S[n] = r0 at *
    refine xE_slice0 EL_28 fun w1 ho1 hk1 hz1 => ?_
    have hm1 := h1.kept0 hk1
    obtain ⟨M0, M1, M2, M3⟩ := hm1.ld
    simp only [xP_nil, xP_pick, xP_func, xP_not, xP_add, xP_sub, xP_mul, xP_lss, xP_leq, xP_gtr, xP_geq, xP_max2, xP_min2, xR_eql, xR_neq, Nat.zero_add, Nat.add_zero, Nat.reduceAdd, List.getD_cons_zero, List.getD_cons_succ, xIf_true, xIf_false, FA_44_0, FA_44_1, FA_44_2, FA_44_3, FA_44_4, FA_44_5, FA_63_0, FA_63_1, FA_63_2, FA_63_3, FA_71_0, FA_71_1, FA_71_2, FA_71_3, FA_81_2, LEN_28, LEN_40, LEN_46, LEN_59, LEN_106, M0]
    refine (hm1.elem hvs).2 ?_
    have hr0 := hm1.rs r0 hrin
    refine app128 (w := w) hr0.slT hr0.len ho1 hk1 (Nat.le_refl _) fun r w2 hr hrb hrx hk2 _ => ?_
    have hm2 := h1.kept0 hk2
    have hxl := hr.len
    have hrl0 := hr.lt
    refine xLoop_of (fun ls w' => ∃ k : Nat, ls = [.int .i64 k] ∧ k ≤ 4 ∧ Rw.Ok w' ⟨r.v, r.b, rotUp r.x a c k⟩ ∧ Kept [r.b] w2 w')
      (fun ls _ => match ls with | [.int _ k] => 4 - k.toNat | _ => 0) ⟨0, rfl, by omega, hr, Kept.refl _ _⟩ ?_
    rintro _ _ w3 ⟨k, rfl, hk, hok, hk3⟩
    have hfr : ∀ g ∈ frm p lb wm rm S W, g ≠ r.b := fun g hg => by have := hlt g hg; omega
    simp only [xP_nil, xP_pick, xP_func, xP_not, xP_add, xP_sub, xP_mul, xP_lss, xP_leq, xP_gtr, xP_geq, xP_max2, xP_min2, xR_eql, xR_neq, Nat.zero_add, Nat.add_zero, Nat.reduceAdd, List.getD_cons_zero, List.getD_cons_succ, xIf_true, xIf_false, FA_44_0, FA_44_1, FA_44_2, FA_44_3, FA_44_4, FA_44_5, FA_63_0, FA_63_1, FA_63_2, FA_63_3, FA_71_0, FA_71_1, FA_71_2, FA_71_3, FA_81_2, LEN_28, LEN_40, LEN_46, LEN_59, LEN_106, xIf_dec]
    refine ⟨fun hlt' => ?_, fun hge => ?_⟩
    · have hown := hok.own
      obtain ⟨ro, rc, hrv⟩ := hok.some
      simp only at hrv hown
      have hrl := rotUp_len r.x a c k
      have hak : a + k < 128 := by omega
      have hd := kept_drew [] w3
      have hat : At w3 r.b ro ((rotUp r.x a c k).flatMap encB) := by
        obtain ⟨a', c', e, _, hr'⟩ := hown.slice
        rw [hrv] at e
        cases e
        rcases hr' with hr' | ⟨b', o', e', _, hr'⟩
        · have := congrArg List.length hr'
          rw [flat_len encB_len, hrl, hxl] at this
          simp at this
        · cases e'; exact hr'
      have hcell : w3.drew.cell? ⟨r.b, ro + (a + k), none⟩ = some (.int .u8 ((rotUp r.x a c k).getD (a + k) 0).toNat) := by
        refine at_cell (hat.kept hd (by simp)) ?_
        rw [flat_B, List.getElem?_map, List.getD_eq_getElem?_getD, List.getElem?_eq_getElem (by omega)]
        rfl
      rw [hrv]
      try simp only [xP_nil, xP_pick, xP_func, xP_not, xP_add, xP_sub, xP_mul, xP_lss, xP_leq, xP_gtr, xP_geq, xP_max2, xP_min2, xR_eql, xR_neq, Nat.zero_add, Nat.add_zero, Nat.reduceAdd, List.getD_cons_zero, List.getD_cons_succ, xIf_true, xIf_false, FA_44_0, FA_44_1, FA_44_2, FA_44_3, FA_44_4, FA_44_5, FA_63_0, FA_63_1, FA_63_2, FA_63_3, FA_71_0, FA_71_1, FA_71_2, FA_71_3, FA_81_2, LEN_28, LEN_40, LEN_46, LEN_59, LEN_106]
      rw [wrap64 (x := (a : Int) + k) (by omega) (by omega), show (a : Int) + k = ((a + k : Nat) : Int) by omega]
      refine (xP_IAn SL_28 SZ_5 hak).2 ?_
      rw [Nat.mul_one]
      refine (ld1 ONE_5 hcell).2 ?_
      rw [wrap64 (x := 8 * (k : Int)) (by omega) (by omega)]
      refine (xP_shr (by omega)).2 ?_
      refine (xP_conv INT_35 INT_5).2 ?_
      rw [show (8 * (k : Int)).toNat = 8 * k by omega]
      rw [show IntKind.u8.wrap (c / 2 ^ min (8 * k) IntKind.u32.bits) = ((byteOf c k).toNat : Int) from byteOf_val c k]
      refine xP_xorB.2 ?_
      refine (xP_IAn SL_28 SZ_5 hak).2 ?_
      rw [Nat.mul_one]
      rw [hrv] at hown
      refine xE_storeOwn SZ_5 (hown.kept hd (by simp)) (by rw [flat_len encB_len]; omega) rfl fun w4 ho4 hk4 hz4 => ?_
      rw [flip_set, ← hrv] at ho4
      rw [wrap64 (by omega) (by omega), ← hrv]
      exact ⟨⟨k + 1, rfl, by omega, ⟨ho4, (rotUp_len r.x a c (k + 1)).trans hxl⟩, (hk3.then hd (by simp)).then hk4 (by simp)⟩, by omega⟩
    · obtain rfl : k = 4 := by omega
      have hm3 := hm2.kept hk3 (fun g hg hm => by simp at hm; exact hfr g hg hm)
      have hd := kept_drew [] w3
      have hm4 := (hm3.kept0 hd).swap (i := n) (r := ⟨r.v, r.b, rotUp r.x a c 4⟩) (hok.kept hd (by simp)) hfr
      obtain ⟨N0, N1, N2, N3⟩ := hm4.ld
      simp only [xP_nil, xP_pick, xP_func, xP_not, xP_add, xP_sub, xP_mul, xP_lss, xP_leq, xP_gtr, xP_geq, xP_max2, xP_min2, xR_eql, xR_neq, Nat.zero_add, Nat.add_zero, Nat.reduceAdd, List.getD_cons_zero, List.getD_cons_succ, xIf_true, xIf_false, FA_44_0, FA_44_1, FA_44_2, FA_44_3, FA_44_4, FA_44_5, FA_63_0, FA_63_1, FA_63_2, FA_63_3, FA_71_0, FA_71_1, FA_71_2, FA_71_3, FA_81_2, LEN_28, LEN_40, LEN_46, LEN_59, LEN_106, N0, N2]
      have hn' : n < (S.set n ⟨r.v, r.b, rotUp r.x a c 4⟩).length := by rw [List.length_set]; exact hn
      refine hm4.put hn' hok.one fun w5 h5 hk5 => ?_
      refine xE_mapEntry MP_61 h5.mr ZB (v := true) rfl fun w6 hm6 hk6 hz6 => ?_
      have hfin := h5.rotm hm6 hk6
      have hz2 := hk2.size
      refine ⟨frm p lb wm rm (S.set n ⟨r.v, r.b, rotUp r.x a c 4⟩) W, rfl, ⟨lb, o, cap, wm, rm, S.set n ⟨r.v, r.b, rotUp r.x a c 4⟩, W, mset R (n : Int) true, ?_, ⟨?_, h2.2.1, fun j => ?_⟩, rfl⟩, ?_, fun g hg => ?_⟩
      · have : (S.set n ⟨r.v, r.b, rotUp r.x a c 4⟩).map Rw.v = (S.map Rw.v).set n r.v := by rw [List.map_set]
        rw [this]
        exact hfin
      · unfold Dk.rotd
        simp only
        rw [List.map_set, h2.1, hx0, hrx]
      · rw [mget_set]
        unfold Dk.rotd
        simp only
        by_cases hj : (n : Int) = j
        · have : j = n := by omega
          rw [if_pos hj, if_pos this]; rfl
        · have : ¬ j = n := by omega
          rw [if_neg hj, if_neg this]
          exact h2.2.2 j
      · exact ((((hk2.mono (by simp)).then hk3 (fun g hg => .inr (by simp at hg; omega))).then hd (by simp)).then hk5 (fun g hg => .inl (by simp at hg; subst hg; simp [frm]))).then hk6 (fun g hg => .inl (by simp at hg; subst hg; simp [frm]))
      · unfold frm at hg ⊢
        simp only [List.mem_cons, List.mem_append, List.mem_map] at hg ⊢
        rcases hg with hg | hg | hg | hg | ⟨r', hr', rfl⟩ | hg
        · exact .inl (.inl hg)
        · exact .inl (.inr (.inl hg))
        · exact .inl (.inr (.inr (.inl hg)))
        · exact .inl (.inr (.inr (.inr (.inl hg))))
        · rcases List.mem_or_eq_of_mem_set hr' with hr' | rfl
          · exact .inl (.inr (.inr (.inr (.inr (.inl ⟨r', hr', rfl⟩)))))
          · exact .inr hrb
        · exact .inl (.inr (.inr (.inr (.inr (.inr hg)))))
theorem Raw.alive {T : TypeId} {w : World} {p lb o cap n : Nat} {m1 m2 : Value} {C : List Value} {dead : Bool} (h : Raw T w p lb o cap n m1 m2 C dead) (b : Bool) {K : World → Prop} (k : ∀ w', Raw T w' p lb o cap n m1 m2 C b → Kept [p] w w' → w'.heap.size = w.heap.size → K w') :
    xE Tryd.prog (sStore 4 (.pointer (some ⟨p, 3, none⟩)) (.bool b)) w fun _ w' => K w' := by
  refine xE_store1 SZ_4 h.blk (by simp) rfl fun w1 hb1 hk1 hz1 => ?_
  exact k w1 ⟨by simpa using hb1, h.own.kept hk1 (by simp; exact fun e => h.ne e.symm), h.ne, h.pos, h.le⟩ hk1 hz1
theorem rdieD_ok {p : Nat} {D : Dk} {F : List Nat} {w : World} (h : RI w p D F) : Gives Tryd.prog 30 #[.pointer (some ⟨p, 0, none⟩)] w fun _ w' => ∃ F', RI w' p (D.blank true) F' ∧ Kept F w w' ∧ ∀ g ∈ F', g ∈ F ∨ w.heap.size ≤ g := by
  obtain ⟨lb, o, cap, wm, rm, S, W, R, h1, h2, rfl⟩ := h
  have hlen : S.length = D.sec.length := by rw [← h2.1, List.length_map]
  refine C_staveref1_Disk_Die ?_
  unfold S_staveref1_Disk_Die
  simp only [xP_nil, xP_pick, xP_func, xP_not, xP_add, xP_sub, xP_mul, xP_lss, xP_leq, xP_gtr, xP_geq, xP_max2, xP_min2, xR_eql, xR_neq, Nat.zero_add, Nat.add_zero, Nat.reduceAdd, List.getD_cons_zero, List.getD_cons_succ, xIf_true, xIf_false, FA_44_0, FA_44_1, FA_44_2, FA_44_3, FA_44_4, FA_44_5, FA_63_0, FA_63_1, FA_63_2, FA_63_3, FA_71_0, FA_71_1, FA_71_2, FA_71_3, FA_81_2, LEN_28, LEN_40, LEN_46, LEN_59, LEN_106]
  refine h1.raw.alive true fun w1 hr1 hk1 hz1 => ?_
  refine xE_call CF_44 (rblank_ok hr1) ?_
  rintro _ w2 ⟨F', hD, hk2, hF⟩
  refine ⟨F', ?_, (hk1.mono (fun g hg => .inl (by simp at hg; subst hg; simp [frm]))).then hk2 (fun g hg => .inl (by simp at hg; rcases hg with rfl | rfl <;> simp [frm])), fun g hg => ?_⟩
  · show RI w2 p ⟨List.replicate D.sec.length noughts, _, _, _⟩ F'
    rw [← hlen]
    exact hD
  · rcases hF g hg with rfl | rfl | h
    · exact .inl (by simp [frm])
    · exact .inl (by simp [frm])
    · exact .inr (by omega)
theorem rreplaceD_ok {p : Nat} {D : Dk} {F : List Nat} {w : World} (h : RI w p D F) : Gives Tryd.prog 31 #[.pointer (some ⟨p, 0, none⟩)] w fun _ w' => ∃ F', RI w' p (D.blank false) F' ∧ Kept F w w' ∧ ∀ g ∈ F', g ∈ F ∨ w.heap.size ≤ g := by
  obtain ⟨lb, o, cap, wm, rm, S, W, R, h1, h2, rfl⟩ := h
  have hlen : S.length = D.sec.length := by rw [← h2.1, List.length_map]
  refine C_staveref1_Disk_Replace ?_
  unfold S_staveref1_Disk_Replace
  simp only [xP_nil, xP_pick, xP_func, xP_not, xP_add, xP_sub, xP_mul, xP_lss, xP_leq, xP_gtr, xP_geq, xP_max2, xP_min2, xR_eql, xR_neq, Nat.zero_add, Nat.add_zero, Nat.reduceAdd, List.getD_cons_zero, List.getD_cons_succ, xIf_true, xIf_false, FA_44_0, FA_44_1, FA_44_2, FA_44_3, FA_44_4, FA_44_5, FA_63_0, FA_63_1, FA_63_2, FA_63_3, FA_71_0, FA_71_1, FA_71_2, FA_71_3, FA_81_2, LEN_28, LEN_40, LEN_46, LEN_59, LEN_106]
  refine h1.raw.alive false fun w1 hr1 hk1 hz1 => ?_
  refine xE_call CF_44 (rblank_ok hr1) ?_
  rintro _ w2 ⟨F', hD, hk2, hF⟩
  refine ⟨F', ?_, (hk1.mono (fun g hg => .inl (by simp at hg; subst hg; simp [frm]))).then hk2 (fun g hg => .inl (by simp at hg; rcases hg with rfl | rfl <;> simp [frm])), fun g hg => ?_⟩
  · show RI w2 p ⟨List.replicate D.sec.length noughts, _, _, _⟩ F'
    rw [← hlen]
    exact hD
  · rcases hF g hg with rfl | rfl | h
    · exact .inl (by simp [frm])
    · exact .inl (by simp [frm])
    · exact .inr (by omega)
end Go.Proofs.YthmjjdfjegjfeaaDoor
