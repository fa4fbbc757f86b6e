import Derived.Test.YtfjoepdmjopelaaDoorXkDisk2
namespace Go.Proofs.YtfjoepdmjopelaaDoor
set_option linter.unusedSimpArgs false
set_option linter.unusedVariables false
set_option maxRecDepth 100000
attribute [local irreducible] Go.X.xE
open Go Go.X Go.RowKit

/-! ## Lists of the numbers that a test takes -/
theorem nodup_len : ∀ {l m : List Int}, l.Nodup → (∀ x ∈ l, x ∈ m) → l.length ≤ m.length
  | [], m, _, _ => by simp
  | x :: l, m, h, hs => by
    obtain ⟨h1, h2⟩ := List.nodup_cons.1 h
    have hx := hs x List.mem_cons_self
    have ih := nodup_len (m := m.erase x) h2 (fun y hy => (List.mem_erase_of_ne (fun e => h1 (by rw [← e]; exact hy))).2 (hs y (List.mem_cons_of_mem _ hy)))
    rw [List.length_erase_of_mem hx] at ih
    have := List.length_pos_of_mem hx
    rw [List.length_cons]
    omega
theorem sel_get (p : Nat → Bool) : ∀ n m i, ((List.range n).filter p)[m]? = some i → i < n ∧ p i = true ∧ ((List.range i).filter p).length = m
  | 0, m, i, h => by simp at h
  | n + 1, m, i, h => by
    rw [List.range_succ, List.filter_append] at h
    rcases Nat.lt_or_ge m ((List.range n).filter p).length with hlt | hge
    · rw [List.getElem?_append_left hlt] at h
      obtain ⟨h1, h2, h3⟩ := sel_get p n m i h
      exact ⟨by omega, h2, h3⟩
    · rw [List.getElem?_append_right hge] at h
      cases hp : p n with
      | false => rw [show [n].filter p = [] by simp [hp]] at h; simp at h
      | true =>
        rw [show [n].filter p = [n] by simp [hp]] at h
        have h0 := (List.getElem?_eq_some_iff.1 h).1
        simp only [List.length_singleton] at h0
        have e : m - ((List.range n).filter p).length = 0 := by omega
        rw [e] at h
        simp at h
        subst h
        exact ⟨by omega, hp, by omega⟩
theorem sel_mono (p : Nat → Bool) (j : Nat) : ∀ d, ((List.range j).filter p).length ≤ ((List.range (j + d)).filter p).length
  | 0 => Nat.le_refl _
  | d + 1 => by
    rw [← Nat.add_assoc, List.range_succ, List.filter_append, List.length_append]
    have := sel_mono p j d
    omega
theorem sel_lt {p : Nat → Bool} {j k : Nat} (h : j < k) (hp : p j = true) : ((List.range j).filter p).length < ((List.range k).filter p).length := by
  have h1 := sel_mono p (j + 1) (k - (j + 1))
  rw [show j + 1 + (k - (j + 1)) = k by omega, List.range_succ, List.filter_append, List.length_append, show [j].filter p = [j] by simp [hp]] at h1
  simp at h1
  omega
theorem sel_inj {p : Nat → Bool} {i j : Nat} (hi : p i = true) (hj : p j = true) (h : ((List.range i).filter p).length = ((List.range j).filter p).length) : i = j := by
  rcases Nat.lt_trichotomy i j with hlt | he | hlt
  · have := sel_lt hlt hi; omega
  · exact he
  · have := sel_lt hlt hj; omega
theorem mget_key {α : Type} {l : List (Int × α)} {k : Int} (h : k ∈ l.map (·.1)) : ∃ v, mget l k = some v := by
  induction l with
  | nil => simp at h
  | cons p l ih =>
    simp only [mget]
    split
    · exact ⟨_, rfl⟩
    · rename_i hne
      rw [List.map_cons, List.mem_cons] at h
      exact ih (h.resolve_left (fun e => hne e.symm))

/-! ## Flush, Crash, Rot -/
theorem rowIk : RowB Tryd.prog 41 3 1 encI (Value.int .i64) := RowB.one SL_41 SZ_3 ONE_3
theorem flush_ok {p : Nat} {D : Dk} {F : List Nat} {w : World} (h : DkI 53 w p D F) :
    Gives Tryd.prog 6 #[.pointer (some ⟨p, 0, none⟩)] w fun u w' => ∃ F', u = optV (dEr opDF 0 (D.refK 0 false)) ∧ DkI 53 w' p (if D.dead then D else D.drain fun j => (D.wt j).isSome) F' ∧ Kept F w w' ∧ ∀ g ∈ F', g ∈ F ∨ w.heap.size ≤ g := by
  have hsec := h.secs
  refine C_disk_Disk_Flush ?_
  unfold S_disk_Disk_Flush
  refine refusedS h ?_
  refine optV_neq.2 ?_
  rw [dEr_some]
  cases hdead : D.dead with
  | true =>
    have hk : D.refK 0 false = 5 := by unfold Dk.refK; rw [hdead]; rfl
    rw [hk]
    simp only [show decide ((5 : Int) = 0) = false from rfl, Bool.not_false, xIf_true, if_true]
    exact ⟨F, rfl, h, Kept.refl _ _, fun g hg => .inl hg⟩
  | false =>
    have hk : D.refK 0 false = 0 := by
      unfold Dk.refK
      rw [hdead, if_neg (by simp), if_neg (by simp; intro hh; rw [hh] at hsec; simp at hsec)]
    rw [hk]
    simp only [decide_true, Bool.not_true, xIf_false, Bool.false_eq_true, if_false]
    obtain ⟨lb, o, cap, wm, rm, S, W, R, h1, h2, rfl⟩ := h
    have hlt := h1.lt
    have hnd := frm_split.1 h1.nd
    obtain ⟨L0, L1, L2, L3⟩ := h1.ld
    simp only [xP_nil, xP_pick, xP_func, xP_not, xP_add, xP_sub, xP_mul, xP_lss, xP_leq, xP_gtr, xP_geq, xP_max2, xP_min2, xR_eql, xR_neq, Nat.zero_add, Nat.add_zero, Nat.reduceAdd, List.getD_cons_zero, List.getD_cons_succ, xIf_true, xIf_false, FA_33_0, FA_33_1, FA_33_3, FA_53_0, FA_53_1, FA_53_2, FA_53_3, FA_61_0, FA_61_1, FA_61_2, LEN_22, LEN_36, LEN_41, LEN_50, LEN_58, LEN_94, L1]
    refine xE_rangeM MP_51 h1.mw fun w1 hit1 hk1 hz1 => ?_
    have hkn : (W.map (·.1)).Nodup := by obtain ⟨es, c, _, _, _, _, hh⟩ := h1.mw; exact hh
    generalize hr : w.heap.size = r at *
    have hrf : r ∉ frm p lb wm rm S W := fun hm => by have := hlt r hm; omega
    refine xLoop_of (fun _ w' => ∃ done R', IterOf w' r wm (fun r : Rw => r.v) W done ∧ Mid 53 w' p lb o cap wm rm S W R' ((mixS S W fun j => decide ((j : Int) ∈ done)).map Rw.v) D.dead ∧ (∀ j : Nat, (mget R' (j : Int)).getD false = if decide ((j : Int) ∈ done) then false else D.rot j) ∧ done.Nodup ∧ (∀ k ∈ done, k ∈ W.map (·.1)) ∧ Kept [lb, rm] w w')
      (fun _ w' => W.length - (w'.iterSeen r).size) ⟨[], R, hit1, by simp only [List.not_mem_nil, decide_false, mixS_none]; exact h1.kept0 hk1, by simpa using h2.2.2, by simp, by simp, hk1.mono (by simp)⟩ ?_
    rintro _ _ w2 ⟨done, R', hit, hm, hR, hdn, hsub, hk2⟩
    have hz2 := hk2.size
    refine xE_nextM hit (fun e => hrf (e ▸ (by simp [frm]))) (fun hall => ?_) (fun q hq hqd w3 hit3 hk3 hz3 => ?_)
    · refine (xP_extract (v := .bool false) rfl).2 ?_
      simp only [xIf_false]
      have hs : (fun j : Nat => decide ((j : Int) ∈ done)) = fun j => (D.wt j).isSome := by
        funext j
        rw [← h2.2.1 j]
        by_cases hj : (j : Int) ∈ done
        · obtain ⟨v, hv⟩ := mget_key (hsub _ hj)
          rw [decide_eq_true hj, hv]; rfl
        · rw [decide_eq_false hj]
          cases hv : mget W (j : Int) with
          | none => rfl
          | some v => exact absurd (hall _ (mget_mem hv)) hj
      rw [hs] at hm
      refine hm.drained h2 rfl (fun j => by rw [hR j]; exact congrArg (fun b : Bool => if b then false else D.rot j) (congrFun hs j)) fun w3 F' hD hk3 hF' => ?_
      refine ⟨F', rfl, ?_, (hk2.mono (fun g hg => .inl (by simp at hg; rcases hg with rfl | rfl <;> simp [frm]))).then hk3 (fun g hg => .inl (by simp at hg; subst hg; simp [frm])), fun g hg => (hF' g hg).imp id (fun h => by omega)⟩
      exact hD
    · refine xP_t0.2 ?_
      simp only [xIf_true]
      refine (xR_entryM hit3 hq).2 ?_
      refine xP_ex0.2 ?_
      have hm3 := hm.kept hk3 (fun g hg hgm => by simp at hgm; subst hgm; exact hrf hg)
      have hqr := h1.rw q hq
      obtain ⟨n, hn⟩ := Int.eq_ofNat_of_zero_le hqr.2.1
      have hget : mget W (n : Int) = some q.2 := by
        have hkey : (n : Int) ∈ W.map (·.1) := List.mem_map.2 ⟨q, hq, hn⟩
        obtain ⟨v, hv⟩ := mget_key hkey
        have hmem := mget_mem hv
        obtain ⟨x, hx, hxe⟩ := List.mem_iff_getElem.1 hmem
        obtain ⟨y, hy, hye⟩ := List.mem_iff_getElem.1 hq
        have hxy : x = y := by
          rcases Nat.lt_trichotomy x y with hlt | he' | hlt
          · refine absurd ?_ (List.pairwise_iff_getElem.1 hkn x y (by simpa using hx) (by simpa using hy) hlt)
            rw [List.getElem_map, List.getElem_map, hxe, hye]; exact hn.symm
          · exact he'
          · refine absurd ?_ (List.pairwise_iff_getElem.1 hkn y x (by simpa using hy) (by simpa using hx) hlt)
            rw [List.getElem_map, List.getElem_map, hxe, hye]; exact hn
        subst hxy
        rw [hxe] at hye
        rw [hv, ← hye]
      rw [hn] at hqd hit3 ⊢
      refine xE_call CF_18 (put_ok hm3 hget) ?_
      rintro _ w4 ⟨h4, hk4⟩
      rw [mixS_set hget] at h4
      have hit4 := hit3.kept hk4 (fun hmm => hrf (by simp at hmm; rcases hmm with rfl | rfl <;> simp [frm])) (by simp; exact ⟨fun e => hnd.1.2.2.2.1 e.symm, hnd.1.2.2.2.2.2⟩)
      have hset : (fun j : Nat => decide ((j : Int) ∈ done) || decide (j = n)) = fun j : Nat => decide ((j : Int) ∈ (n : Int) :: done) := by
        funext j
        by_cases hj : j = n
        · subst hj; simp
        · have : ¬ (j : Int) = n := by omega
          simp [hj, this]
      rw [hset] at h4
      have hlen : (n :: done.map Int.toNat).length = done.length + 1 := by simp
      have hnd' : ((n : Int) :: done).Nodup := List.nodup_cons.2 ⟨hqd, hdn⟩
      have hsub' : ∀ k ∈ (n : Int) :: done, k ∈ W.map (·.1) := fun k hk => by
        rcases List.mem_cons.1 hk with rfl | hk
        · exact List.mem_map.2 ⟨q, hq, hn⟩
        · exact hsub k hk
      have hle := nodup_len hnd' hsub'
      rw [List.length_map, List.length_cons] at hle
      refine ⟨⟨(n : Int) :: done, _, hit4, h4, fun j => ?_, hnd', hsub', ?_⟩, ?_⟩
      · rw [mget_set]
        by_cases hj : (n : Int) = j
        · rw [if_pos hj, if_pos (by simp [hj])]; rfl
        · rw [if_neg hj, hR j]
          have : decide ((j : Int) ∈ (n : Int) :: done) = decide ((j : Int) ∈ done) := decide_eq_decide.2 (by rw [List.mem_cons]; exact ⟨fun h => h.resolve_left (fun e => hj e.symm), .inr⟩)
          rw [this]
      · exact (hk2.then hk3 (fun g hg => .inr (by simp at hg; omega))).then hk4 (fun g hg => .inl hg)
      · rw [hit4.seen, hit.seen, List.length_cons]
        omega
theorem crash_ok {p : Nat} {D : Dk} {F : List Nat} {bits : Int} {w : World} (h : DkI 53 w p D F) :
    Gives Tryd.prog 23 #[.pointer (some ⟨p, 0, none⟩), .int .u64 bits] w fun u w' => ∃ F', DkI 53 w' p (D.drain (D.crashS bits)) F' ∧ Kept F w w' ∧ ∀ g ∈ F', g ∈ F ∨ w.heap.size ≤ g := by
  have hsec := h.secs
  have hwt := h.waits
  have hltw := h.lt
  refine C_disk_Disk_Crash ?_
  unfold S_disk_Disk_Crash
  refine xE_call CF_11 (waits_ok h) ?_
  rintro u w1 ⟨hu, hub, hk1⟩
  have h := h.kept0 hk1
  obtain ⟨ua, uc, rfl, r1, r2⟩ := hu
  have hu : SlT w1 encI (.slice ua (intsOf D.ws).length uc) (intsOf D.ws) := ⟨ua, uc, rfl, r1, r2⟩
  obtain ⟨lb, o, cap, wm, rm, S, W, R, h1, h2, rfl⟩ := h
  have hsl : S.length = D.sec.length := by rw [← h2.1, List.length_map]
  have hlt := h1.lt
  have hz1 := hk1.size
  have hwl : (intsOf D.ws).length = D.ws.length := by simp [intsOf]
  have hwle : D.ws.length ≤ 128 := by
    unfold Dk.ws
    have := List.length_filter_le (fun i => (D.wt i).isSome) (List.range D.sec.length)
    rw [List.length_range] at this
    omega
  simp only [xP_nil, xP_pick, xP_func, xP_not, xP_add, xP_sub, xP_mul, xP_lss, xP_leq, xP_gtr, xP_geq, xP_max2, xP_min2, xR_eql, xR_neq, Nat.zero_add, Nat.add_zero, Nat.reduceAdd, List.getD_cons_zero, List.getD_cons_succ, xIf_true, xIf_false, FA_33_0, FA_33_1, FA_33_3, FA_53_0, FA_53_1, FA_53_2, FA_53_3, FA_61_0, FA_61_1, FA_61_2, LEN_22, LEN_36, LEN_41, LEN_50, LEN_58, LEN_94]
  refine xLoop_of (fun ls w' => ∃ (m : Nat) (R' : List (Int × Bool)), ls = [.int .i64 m] ∧ m ≤ D.ws.length ∧ Mid 53 w' p lb o cap wm rm S W R' ((mixS S W fun j => (D.wt j).isSome && decide (D.cnt j < m) && bit1 bits (D.cnt j % 64)).map Rw.v) D.dead ∧ (∀ j : Nat, (mget R' (j : Int)).getD false = if ((D.wt j).isSome && decide (D.cnt j < m) && bit1 bits (D.cnt j % 64)) then false else D.rot j) ∧ SlT w' encI (.slice ua (intsOf D.ws).length uc) (intsOf D.ws) ∧ Kept [lb, rm] w1 w')
    (fun ls _ => match ls with | [.int _ m] => D.ws.length - m.toNat | _ => 0) ⟨0, R, rfl, by omega, by simp only [Nat.not_lt_zero, decide_false, Bool.and_false, Bool.false_and, mixS_none]; exact h1, by simpa using h2.2.2, hu, Kept.refl _ _⟩ ?_
  rintro _ _ w2 ⟨m, R', rfl, hm, h3, hR, hu2, hk2⟩
  simp only [xP_nil, xP_pick, xP_func, xP_not, xP_add, xP_sub, xP_mul, xP_lss, xP_leq, xP_gtr, xP_geq, xP_max2, xP_min2, xR_eql, xR_neq, Nat.zero_add, Nat.add_zero, Nat.reduceAdd, List.getD_cons_zero, List.getD_cons_succ, xIf_true, xIf_false, FA_33_0, FA_33_1, FA_33_3, FA_53_0, FA_53_1, FA_53_2, FA_53_3, FA_61_0, FA_61_1, FA_61_2, LEN_22, LEN_36, LEN_41, LEN_50, LEN_58, LEN_94, xIf_dec]
  refine ⟨fun hlt' => ?_, fun hge => ?_⟩
  · have hml : m < D.ws.length := by omega
    obtain ⟨i, hget⟩ : ∃ i, D.ws[m]? = some i := ⟨_, List.getElem?_eq_getElem hml⟩
    obtain ⟨i1, i2, i3⟩ := sel_get _ _ _ _ hget
    have hei : (intsOf D.ws)[m]'(by omega) = ((i : Nat) : Int) := by
      have : (intsOf D.ws)[m]? = some (i : Int) := by simp [intsOf, hget]
      exact (List.getElem?_eq_some_iff.1 this).2
    have hmi : D.cnt i = m := i3
    have hstep : ∀ j : Nat, ((D.wt j).isSome && decide (D.cnt j < m + 1) && bit1 bits (D.cnt j % 64)) = (((D.wt j).isSome && decide (D.cnt j < m) && bit1 bits (D.cnt j % 64)) || (decide (j = i) && bit1 bits (m % 64))) := by
      intro j
      by_cases hji : j = i
      · subst hji
        rw [i2, hmi]
        simp
      · have hne : (D.wt j).isSome = true → D.cnt j ≠ m := fun hj he => hji (sel_inj hj i2 (he.trans hmi.symm))
        cases hj : (D.wt j).isSome with
        | false => simp [hji]
        | true =>
          have := hne hj
          have e : decide (D.cnt j < m + 1) = decide (D.cnt j < m) := decide_eq_decide.2 (by omega)
          rw [e]
          simp [hji]
    refine xJoin_of (fun ls w' => ∃ (R' : List (Int × Bool)), Mid 53 w' p lb o cap wm rm S W R' ((mixS S W fun j => (D.wt j).isSome && decide (D.cnt j < m + 1) && bit1 bits (D.cnt j % 64)).map Rw.v) D.dead ∧ (∀ j : Nat, (mget R' (j : Int)).getD false = if ((D.wt j).isSome && decide (D.cnt j < m + 1) && bit1 bits (D.cnt j % 64)) then false else D.rot j) ∧ SlT w' encI (.slice ua (intsOf D.ws).length uc) (intsOf D.ws) ∧ Kept [lb, rm] w1 w') ?_ ?_
    · refine (rowIk.get hu2 (Kept.refl _ _) (by omega)).2 ?_
      rw [hei]
      refine (xP_rem (by omega)).2 ?_
      rw [show ((m : Int).tmod 64) = ((m % 64 : Nat) : Int) by rw [Int.tmod_eq_emod_of_nonneg (by omega)]; omega]
      refine (xP_conv INT_3 INT_83).2 ?_
      rw [wrapU64 (by omega) (by omega)]
      refine (xP_shr (by omega)).2 ?_
      refine xP_and.2 ?_
      simp only [xP_nil, xP_pick, xP_func, xP_not, xP_add, xP_sub, xP_mul, xP_lss, xP_leq, xP_gtr, xP_geq, xP_max2, xP_min2, xR_eql, xR_neq, Nat.zero_add, Nat.add_zero, Nat.reduceAdd, List.getD_cons_zero, List.getD_cons_succ, xIf_true, xIf_false, FA_33_0, FA_33_1, FA_33_3, FA_53_0, FA_53_1, FA_53_2, FA_53_3, FA_61_0, FA_61_1, FA_61_2, LEN_22, LEN_36, LEN_41, LEN_50, LEN_58, LEN_94]
      rw [Int.toNat_natCast]
      show xIf (.bool (bit1 bits (m % 64))) _ _
      rw [xIf_bool]
      refine ⟨fun hb => ?_, fun hb => ?_⟩
      · obtain ⟨r, hr⟩ : ∃ r, mget W (i : Int) = some r := by
          have := h2.2.1 i
          cases hv : mget W (i : Int) with
          | none => rw [hv] at this; rw [← this] at i2; cases i2
          | some r => exact ⟨r, rfl⟩
        refine xE_call CF_18 (put_ok h3 hr) ?_
        rintro _ w3 ⟨h4, hk3⟩
        rw [mixS_set hr] at h4
        have hfn : (fun j : Nat => (D.wt j).isSome && decide (D.cnt j < m) && bit1 bits (D.cnt j % 64) || decide (j = i)) = fun j => (D.wt j).isSome && decide (D.cnt j < m + 1) && bit1 bits (D.cnt j % 64) := by
          funext j
          rw [hstep j, hb, Bool.and_true]
        rw [hfn] at h4
        refine ⟨_, h4, fun j => ?_, hu2.kept hk3 (fun b o n c e hmm => ?_), hk2.then hk3 (fun g hg => .inl hg)⟩
        · rw [mget_set, hstep j, hb, Bool.and_true]
          by_cases hj : (i : Int) = j
          · have : j = i := by omega
            rw [if_pos hj, this]
            simp
          · have : ¬ j = i := by omega
            rw [if_neg hj, hR j]
            simp [this]
        · have hb5 := hub b o n c e
          simp at hmm
          rcases hmm with rfl | rfl
          · have := hltw b (by simp [frm]); omega
          · have := hltw b (by simp [frm]); omega
      · have hfn : (fun j : Nat => (D.wt j).isSome && decide (D.cnt j < m) && bit1 bits (D.cnt j % 64)) = fun j => (D.wt j).isSome && decide (D.cnt j < m + 1) && bit1 bits (D.cnt j % 64) := by
          funext j
          rw [hstep j, hb, Bool.and_false, Bool.or_false]
        rw [hfn] at h3
        exact ⟨R', h3, fun j => by rw [hR j]; exact congrArg (fun b : Bool => if b then false else D.rot j) (congrFun hfn j), hu2, hk2⟩
    rintro _ _ w3 ⟨R3, h4, hR3, hu3, hk3⟩
    try simp only [xP_nil, xP_pick, xP_func, xP_not, xP_add, xP_sub, xP_mul, xP_lss, xP_leq, xP_gtr, xP_geq, xP_max2, xP_min2, xR_eql, xR_neq, Nat.zero_add, Nat.add_zero, Nat.reduceAdd, List.getD_cons_zero, List.getD_cons_succ, xIf_true, xIf_false, FA_33_0, FA_33_1, FA_33_3, FA_53_0, FA_53_1, FA_53_2, FA_53_3, FA_61_0, FA_61_1, FA_61_2, LEN_22, LEN_36, LEN_41, LEN_50, LEN_58, LEN_94]
    rw [wrap64 (by omega) (by omega)]
    exact ⟨⟨m + 1, R3, rfl, by omega, h4, hR3, hu3, hk3⟩, by omega⟩
  · obtain rfl : m = D.ws.length := by omega
    have hs : (fun j : Nat => (D.wt j).isSome && decide (D.cnt j < D.ws.length) && bit1 bits (D.cnt j % 64)) = D.crashS bits := by
      funext j
      unfold Dk.crashS
      cases hj : (D.wt j).isSome with
      | false => rfl
      | true =>
        obtain ⟨x, hx⟩ := Option.isSome_iff_exists.1 hj
        have : D.cnt j < D.ws.length := sel_lt (hwt j x hx).1 hj
        simp [this]
    rw [hs] at h3
    have hz2 := hk2.size
    refine h3.drained h2 rfl (fun j => by rw [hR j]; exact congrArg (fun b : Bool => if b then false else D.rot j) (congrFun hs j)) fun w3 F' hD hk3 hF' => ?_
    exact ⟨F', hD, ((hk1.mono (by simp)).then (hk2.mono (fun g hg => .inl (by simp at hg; rcases hg with rfl | rfl <;> simp [frm]))) (fun g hg => .inl hg)).then hk3 (fun g hg => .inl (by simp at hg; subst hg; simp [frm])), fun g hg => (hF' g hg).imp id (fun h => by omega)⟩
theorem flip_set {p : List UInt8} {i : Nat} {v : UInt8} : (p.flatMap encB).set i (.int .u8 v.toNat) = (p.set i v).flatMap encB := by
  rw [flat_B, flat_B, List.map_set]
theorem Mid.setRow {T : TypeId} {w w' : World} {p lb o cap wm rm : Nat} {S : List Rw} {W : List (Int × Rw)} {R : List (Int × Bool)} {C : List Value} {dead : Bool} (h : Mid T w p lb o cap wm rm S W R C dead) {i : Nat} {r : Rw} {x' : List UInt8} (hi : S[i]? = some r)
    (hown : Own w' 5 1 r.v 128 (x'.flatMap encB) [r.b]) (hx : x'.length = 128) (hk : Kept [r.b] w w') : Mid T w' p lb o cap wm rm (S.set i ⟨r.v, r.b, x'⟩) W R C dead := by
  have hil := (List.getElem?_eq_some_iff.1 hi).1
  have hrS : r ∈ S := List.mem_of_getElem? hi
  have hnd := frm_split.1 h.nd
  have hb : (S.set i ⟨r.v, r.b, x'⟩).map Rw.b = S.map Rw.b := by
    rw [List.map_set]
    have : (S.map Rw.b)[i]? = some r.b := by rw [List.getElem?_map, hi]; rfl
    obtain ⟨h1, h2⟩ := List.getElem?_eq_some_iff.1 this
    show (S.map Rw.b).set i r.b = _
    rw [← h2]; exact List.set_getElem_self h1
  have hother : ∀ (j : Nat) (r' : Rw), j ≠ i → S[j]? = some r' → r'.b ≠ r.b := by
    intro j r' hji hj he
    have hjl := (List.getElem?_eq_some_iff.1 hj).1
    have e1 : S[j] = r' := (List.getElem?_eq_some_iff.1 hj).2
    have e2 : S[i] = r := (List.getElem?_eq_some_iff.1 hi).2
    rcases Nat.lt_trichotomy i j with hlt | he' | hlt
    · refine absurd ?_ (List.pairwise_iff_getElem.1 hnd.2.2.1 i j (by simpa using hil) (by simpa using hjl) hlt)
      rw [List.getElem_map, List.getElem_map, e1, e2]; exact he.symm
    · exact hji he'.symm
    · refine absurd ?_ (List.pairwise_iff_getElem.1 hnd.2.2.1 j i (by simpa using hjl) (by simpa using hil) hlt)
      rw [List.getElem_map, List.getElem_map, e1, e2]; exact he
  have hbase : ∀ b ∈ [p, lb, wm, rm], b ≠ r.b := fun b hb e => (hnd.2.1 b hb).1 r hrS e.symm
  refine ⟨by rw [List.length_set]; exact h.blk.kept hk (by simpa using hbase p (by simp)), by rw [List.length_set]; exact h.own.kept hk (by simpa using hbase lb (by simp)), h.mw.kept hk (by simpa using hbase wm (by simp)), h.mr.kept hk (by simpa using hbase rm (by simp)), fun r' hr' => ?_, fun q hq => ⟨(h.rw q hq).1.kept hk (by simp; exact fun e => hnd.2.2.2.2 r hrS q hq e.symm), by rw [List.length_set]; exact (h.rw q hq).2⟩, ?_, by rw [List.length_set]; exact h.pos, by rw [List.length_set]; exact h.le⟩
  · obtain ⟨j, hj, rfl⟩ := List.mem_iff_getElem.1 hr'
    rw [List.getElem_set]
    split
    · exact ⟨hown, hx⟩
    · rename_i hji
      rw [List.length_set] at hj
      exact (h.rs _ (List.getElem_mem hj)).kept hk (by simp; exact hother j _ (fun e => hji e.symm) (List.getElem?_eq_getElem hj))
  · have : frm p lb wm rm (S.set i ⟨r.v, r.b, x'⟩) W = frm p lb wm rm S W := by unfold frm; rw [hb]
    rw [this]; exact h.nd
theorem byteOf_val (c : Int) (k : Nat) : IntKind.u8.wrap (c / 2 ^ min (8 * k) 32) = ((byteOf c k).toNat : Int) := by
  have e : IntKind.u8.wrap (c / 2 ^ min (8 * k) 32) = (c / 2 ^ min (8 * k) 32) % 256 := by simp [IntKind.wrap, IntKind.bits, IntKind.signed]
  rw [e]
  unfold byteOf
  have h0 := Int.emod_nonneg (c / 2 ^ min (8 * k) 32) (show (256 : Int) ≠ 0 by omega)
  have h1 := Int.emod_lt_of_pos (c / 2 ^ min (8 * k) 32) (show (0 : Int) < 256 by omega)
  generalize c / 2 ^ min (8 * k) 32 % 256 = z at *
  rw [UInt8.toNat_ofNat']
  omega
theorem rot_ok {p : Nat} {D : Dk} {F : List Nat} {i at_ c : Int} {w : World} (h : DkI 53 w p D F) :
    Gives Tryd.prog 24 #[.pointer (some ⟨p, 0, none⟩), .int .i64 i, .int .i64 at_, .int .u32 c] w fun u w' => ∃ F', u = .bool (!D.rotBad i at_ c) ∧ DkI 53 w' p (if D.rotBad i at_ c then D else D.rotd i.toNat at_.toNat c) F' ∧ Kept F w w' ∧ ∀ g ∈ F', g ∈ F ∨ w.heap.size ≤ g := by
  refine C_disk_Disk_Rot ?_
  unfold S_disk_Disk_Rot
  refine xJoin_of (fun ls w' => ls = [.bool (D.rotBad i at_ c)] ∧ w = w') ?_ ?_
  · -- what stands in all three arms behind the test
    have arm : ∀ (b : Bool), b = decide (at_ < 0 ∨ 124 < at_ ∨ c = 0) → ∀ {J : Value → World → Prop}, J (.bool (D.rotBad i at_ c)) w →
        xE Tryd.prog (sCall 17 #[.pointer (some ⟨p, 0, none⟩), .string opDO, .int .i64 i, .bool b]) w fun v22 w4 => xR Tryd.prog (sEq .neq 25 true v22 .nilIface) w4 fun v23 => xIf v23 (J (.bool true) w4)
          (xP Tryd.prog (sNil (.pointer (some ⟨p, 0, none⟩))) fun v26 => xP Tryd.prog (sFA 53 v26 2) fun v27 => xR Tryd.prog (sLoad 29 v27) w4 fun v28 => xR Tryd.prog (sLookup 29 v28 (.int .i64 i) false) w4 fun v30 => J v30 w4) := by
      intro b hb J hJ
      refine refusedS h ?_
      refine optV_neq.2 ?_
      rw [dEr_some, hb]
      unfold Dk.rotBad at hJ
      cases hk : decide (D.refK i (decide (at_ < 0 ∨ 124 < at_ ∨ c = 0)) = 0) with
      | false =>
        rw [hk] at hJ
        simp only [Bool.not_false, xIf_true]
        simpa using hJ
      | true =>
        rw [hk] at hJ
        simp only [Bool.not_true, xIf_false, Bool.false_or] at hJ ⊢
        have hk' := of_decide_eq_true hk
        have hi0 : 0 ≤ i := by
          unfold Dk.refK at hk'
          split at hk'
          · cases hk'
          · split at hk'
            · cases hk'
            · omega
        obtain ⟨n, rfl⟩ := Int.eq_ofNat_of_zero_le hi0
        rw [Int.toNat_natCast] at hJ
        obtain ⟨lb, o, cap, wm, rm, S, W, R, h1, h2, rfl⟩ := h
        obtain ⟨L0, L1, L2, L3⟩ := h1.ld
        simp only [xP_nil, xP_pick, xP_func, xP_not, xP_add, xP_sub, xP_mul, xP_lss, xP_leq, xP_gtr, xP_geq, xP_max2, xP_min2, xR_eql, xR_neq, Nat.zero_add, Nat.add_zero, Nat.reduceAdd, List.getD_cons_zero, List.getD_cons_succ, xIf_true, xIf_false, FA_33_0, FA_33_1, FA_33_3, FA_53_0, FA_53_1, FA_53_2, FA_53_3, FA_61_0, FA_61_1, FA_61_2, LEN_22, LEN_36, LEN_41, LEN_50, LEN_58, LEN_94, L2]
        refine (xR_lookup MP_29 h1.mr ZB).2 ?_
        have e : ((mget R (n : Int)).map Value.bool).getD (.bool false) = .bool (D.rot n) := by
          rw [← h2.2.2 n]; cases mget R (n : Int) <;> rfl
        rw [e]
        exact hJ
    simp only [xP_lss, xIf_dec]
    refine ⟨fun a1 => ?_, fun a1 => ?_⟩
    · exact arm true (decide_eq_true (.inl a1)).symm (J := fun v w' => [v] = [.bool (D.rotBad i at_ c)] ∧ w = w') ⟨rfl, rfl⟩
    · simp only [xP_gtr, xIf_dec]
      refine ⟨fun a2 => ?_, fun a2 => ?_⟩
      · exact arm true (decide_eq_true (.inr (.inl a2))).symm (J := fun v w' => [v] = [.bool (D.rotBad i at_ c)] ∧ w = w') ⟨rfl, rfl⟩
      · simp only [xR_eql]
        exact arm (decide (c = 0)) (decide_eq_decide.2 ⟨fun h => .inr (.inr h), fun h => h.resolve_left a1 |>.resolve_left a2⟩) (J := fun v w' => [v] = [.bool (D.rotBad i at_ c)] ∧ w = w') ⟨rfl, rfl⟩
  rintro _ _ _ ⟨rfl, rfl⟩
  simp only [List.getD_cons_zero]
  cases hbad : D.rotBad i at_ c with
  | true =>
    simp only [xIf_true, if_true, Bool.not_true]
    exact ⟨F, rfl, h, Kept.refl _ _, fun g hg => .inl hg⟩
  | false =>
    simp only [xIf_false, Bool.false_eq_true, if_false, Bool.not_false]
    unfold Dk.rotBad at hbad
    simp only [Bool.or_eq_false_iff, Bool.not_eq_false'] at hbad
    have hk' := of_decide_eq_true hbad.1
    unfold Dk.refK at hk'
    split at hk'
    · cases hk'
    split at hk'
    · cases hk'
    rename_i hnd0 hno
    have hno : (¬ (at_ < 0 ∨ 124 < at_ ∨ c = 0)) ∧ ¬ i < 0 ∧ ¬ (D.sec.length : Int) ≤ i := by
      simp only [decide_eq_true_eq, not_or] at hno ⊢
      exact hno
    obtain ⟨n, rfl⟩ := Int.eq_ofNat_of_zero_le (show 0 ≤ i by omega)
    obtain ⟨a, rfl⟩ := Int.eq_ofNat_of_zero_le (show 0 ≤ at_ by omega)
    simp only [Int.toNat_natCast]
    obtain ⟨lb, o, cap, wm, rm, S, W, R, h1, h2, rfl⟩ := h
    have hsl : S.length = D.sec.length := by rw [← h2.1, List.length_map]
    have hn : n < S.length := by omega
    have hget : S[n]? = some S[n] := List.getElem?_eq_getElem hn
    have hx0 : D.sec.getD n [] = (S[n]).x := by rw [← h2.1, List.getD_eq_getElem?_getD, List.getElem?_map, hget]; rfl
    have hself : S.set n ⟨(S[n]).v, (S[n]).b, (S[n]).x⟩ = S := List.set_getElem_self hn
    have hvs : (S.map Rw.v)[n]? = some (S[n]).v := by rw [List.getElem?_map, hget]; rfl
    have hrin : S[n] ∈ S := List.getElem_mem hn
    generalize S[n] = r at *
    have hxl := (h1.rs r hrin).len
    refine xLoop_of (fun ls w' => ∃ k : Nat, ls = [.int .i64 k] ∧ k ≤ 4 ∧ Mid 53 w' p lb o cap wm rm (S.set n ⟨r.v, r.b, rotUp r.x a c k⟩) W R (S.map Rw.v) D.dead ∧ Kept [r.b] w w')
      (fun ls _ => match ls with | [.int _ k] => 4 - k.toNat | _ => 0) ⟨0, rfl, by omega, by show Mid _ _ _ _ _ _ _ _ (S.set n ⟨r.v, r.b, r.x⟩) _ _ _ _; rw [hself]; exact h1, Kept.refl _ _⟩ ?_
    rintro _ _ w1 ⟨k, rfl, hk, hm, hk1⟩
    have hslen : (S.set n ⟨r.v, r.b, rotUp r.x a c k⟩).length = S.length := List.length_set
    obtain ⟨L0, L1, L2, L3⟩ := hm.ld
    have hrk : (S.set n ⟨r.v, r.b, rotUp r.x a c k⟩)[n]? = some ⟨r.v, r.b, rotUp r.x a c k⟩ := by rw [List.getElem?_set_self hn]
    have hok := hm.rs _ (List.mem_of_getElem? hrk)
    simp only [xP_nil, xP_pick, xP_func, xP_not, xP_add, xP_sub, xP_mul, xP_lss, xP_leq, xP_gtr, xP_geq, xP_max2, xP_min2, xR_eql, xR_neq, Nat.zero_add, Nat.add_zero, Nat.reduceAdd, List.getD_cons_zero, List.getD_cons_succ, xIf_true, xIf_false, FA_33_0, FA_33_1, FA_33_3, FA_53_0, FA_53_1, FA_53_2, FA_53_3, FA_61_0, FA_61_1, FA_61_2, LEN_22, LEN_36, LEN_41, LEN_50, LEN_58, LEN_94, xIf_dec]
    refine ⟨fun hlt => ?_, fun hge => ?_⟩
    · simp only [L0]
      refine (hm.elem hvs).2 ?_
      have hown := hok.own
      obtain ⟨ro, rc, hrv⟩ := hok.some
      simp only at hrv hown
      have hrl := rotUp_len r.x a c k
      have hak : a + k < 128 := by omega
      have hat : At w1 r.b ro ((rotUp r.x a c k).flatMap encB) := by
        obtain ⟨a', c', e, _, hr⟩ := hown.slice
        rw [hrv] at e
        cases e
        rcases hr with hr | ⟨b', o', e', _, hr⟩
        · have := congrArg List.length hr
          rw [flat_len encB_len, hrl, hxl] at this
          simp at this
        · cases e'; exact hr
      have hcell : w1.cell? ⟨r.b, ro + (a + k), none⟩ = some (.int .u8 ((rotUp r.x a c k).getD (a + k) 0).toNat) := by
        refine at_cell hat ?_
        rw [flat_B, List.getElem?_map, List.getD_eq_getElem?_getD, List.getElem?_eq_getElem (by omega)]
        rfl
      rw [hrv]
      try simp only [xP_nil, xP_pick, xP_func, xP_not, xP_add, xP_sub, xP_mul, xP_lss, xP_leq, xP_gtr, xP_geq, xP_max2, xP_min2, xR_eql, xR_neq, Nat.zero_add, Nat.add_zero, Nat.reduceAdd, List.getD_cons_zero, List.getD_cons_succ, xIf_true, xIf_false, FA_33_0, FA_33_1, FA_33_3, FA_53_0, FA_53_1, FA_53_2, FA_53_3, FA_61_0, FA_61_1, FA_61_2, LEN_22, LEN_36, LEN_41, LEN_50, LEN_58, LEN_94]
      rw [wrap64 (x := (a : Int) + k) (by omega) (by omega), show (a : Int) + k = ((a + k : Nat) : Int) by omega]
      refine (xP_IAn SL_36 SZ_5 hak).2 ?_
      rw [Nat.mul_one]
      refine (ld1 ONE_5 hcell).2 ?_
      rw [wrap64 (x := 8 * (k : Int)) (by omega) (by omega)]
      refine (xP_conv INT_3 INT_83).2 ?_
      rw [wrapU64 (by omega) (by omega)]
      refine (xP_shr (by omega)).2 ?_
      refine (xP_conv INT_67 INT_5).2 ?_
      rw [show (8 * (k : Int)).toNat = 8 * k by omega]
      rw [show IntKind.u8.wrap (c / 2 ^ min (8 * k) IntKind.u32.bits) = ((byteOf c k).toNat : Int) from byteOf_val c k]
      refine xP_xorB.2 ?_
      refine (xP_IAn SL_36 SZ_5 hak).2 ?_
      rw [Nat.mul_one]
      rw [hrv] at hown
      refine xE_storeOwn SZ_5 hown (by rw [flat_len encB_len]; omega) rfl fun w2 ho2 hk2 hz2 => ?_
      rw [flip_set, ← hrv] at ho2
      have hm2 := hm.setRow hrk ho2 (by rw [List.length_set, hrl, hxl]) hk2
      rw [List.set_set] at hm2
      rw [wrap64 (by omega) (by omega), ← hrv]
      exact ⟨⟨k + 1, rfl, by omega, hm2, hk1.then hk2 (by simp)⟩, by omega⟩
    · obtain rfl : k = 4 := by omega
      simp only [xP_nil, xP_pick, xP_func, xP_not, xP_add, xP_sub, xP_mul, xP_lss, xP_leq, xP_gtr, xP_geq, xP_max2, xP_min2, xR_eql, xR_neq, Nat.zero_add, Nat.add_zero, Nat.reduceAdd, List.getD_cons_zero, List.getD_cons_succ, xIf_true, xIf_false, FA_33_0, FA_33_1, FA_33_3, FA_53_0, FA_53_1, FA_53_2, FA_53_3, FA_61_0, FA_61_1, FA_61_2, LEN_22, LEN_36, LEN_41, LEN_50, LEN_58, LEN_94, L2]
      refine xE_mapUpdate MP_29 hm.mr (v := true) rfl fun w2 hm2 hk2 hz2 => ?_
      have hfin := hm.rotm hm2 hk2
      have hfr : frm p lb wm rm (S.set n ⟨r.v, r.b, rotUp r.x a c 4⟩) W = frm p lb wm rm S W := by
        unfold frm
        congr 5
        rw [List.map_set]
        have : (S.map Rw.b)[n]? = some r.b := by rw [List.getElem?_map, hget]; rfl
        obtain ⟨h1, h2⟩ := List.getElem?_eq_some_iff.1 this
        show (S.map Rw.b).set n r.b = _
        rw [← h2]; exact List.set_getElem_self h1
      refine ⟨frm p lb wm rm S W, rfl, ⟨lb, o, cap, wm, rm, _, W, mset R (n : Int) true, ?_, ⟨?_, h2.2.1, fun j => ?_⟩, hfr.symm⟩, (hk1.mono (fun g hg => .inl (by simp at hg; subst hg; unfold frm; simp; exact .inr (.inr (.inr (.inr (.inl ⟨r, hrin, rfl⟩))))))).then hk2 (fun g hg => .inl (by simp at hg; subst hg; simp [frm])), fun g hg => .inl hg⟩
      · have : (S.set n ⟨r.v, r.b, rotUp r.x a c 4⟩).map Rw.v = S.map Rw.v := by
          rw [List.map_set]
          obtain ⟨h1, h2⟩ := List.getElem?_eq_some_iff.1 hvs
          show (S.map Rw.v).set n r.v = _
          rw [← h2]; exact List.set_getElem_self h1
        rw [this]
        exact hfin
      · unfold Dk.rotd
        simp only
        rw [List.map_set, h2.1, hx0]
      · rw [mget_set]
        unfold Dk.rotd
        simp only
        by_cases hj : (n : Int) = j
        · have : j = n := by omega
          rw [if_pos hj, if_pos this]; rfl
        · have : ¬ j = n := by omega
          rw [if_neg hj, if_neg this]
          exact h2.2.2 j
end Go.Proofs.YtfjoepdmjopelaaDoor
