import Derived.Test.YtjajjblppogfoaaDoorXpPlog0
namespace Go.Proofs.YtjajjblppogfoaaDoor
set_option linter.unusedSimpArgs false
set_option linter.unusedVariables false
set_option maxRecDepth 100000
attribute [local irreducible] Go.X.xE
open Go Go.X

/-! ## Package plog -/
def LogI (w : World) (p : Nat) (L : Lg) (F : List Nat) : Prop := ∃ b Fx, Blk w p 96 [.pointer (some ⟨b, 0, none⟩), .int .i64 L.start, .int .i64 L.next] ∧ Ix w b 4 L.hs Fx ∧ p ∉ Fx ∧ F = p :: Fx
theorem LogI.kept {w w' : World} {p : Nat} {L : Lg} {F M : List Nat} (h : LogI w p L F) (hk : Kept M w w') (hd : ∀ g ∈ F, g ∉ M) : LogI w' p L F := by
  obtain ⟨b, Fx, h1, h2, h3, rfl⟩ := h
  exact ⟨b, Fx, h1.kept hk (hd p (by simp)), h2.kept hk (fun g hg => hd g (by simp [hg])), h3, rfl⟩
theorem LogI.kept0 {w w' : World} {p : Nat} {L : Lg} {F : List Nat} (h : LogI w p L F) (hk : Kept [] w w') : LogI w' p L F := h.kept hk (by simp)
theorem LogI.lt {w : World} {p : Nat} {L : Lg} {F : List Nat} (h : LogI w p L F) : ∀ g ∈ F, g < w.heap.size := by
  obtain ⟨b, Fx, h1, h2, h3, rfl⟩ := h
  intro g hg
  rcases List.mem_cons.1 hg with rfl | hg
  · exact h1.lt
  · exact h2.lt g hg
theorem ldL {w : World} {p b : Nat} {s n : Int} (h : Blk w p 96 [.pointer (some ⟨b, 0, none⟩), .int .i64 s, .int .i64 n]) :
    (∀ K, xR Tryd.prog (sLoad 93 (.pointer (some ⟨p, 0, none⟩))) w K ↔ K (.pointer (some ⟨b, 0, none⟩))) ∧ (∀ K, xR Tryd.prog (sLoad 3 (.pointer (some ⟨p, 1, none⟩))) w K ↔ K (.int .i64 s)) ∧ (∀ K, xR Tryd.prog (sLoad 3 (.pointer (some ⟨p, 2, none⟩))) w K ↔ K (.int .i64 n)) :=
  ⟨fun _ => ld1 ONE_93 (h.cell (o := 0)), fun _ => ld1 ONE_3 (h.cell (o := 1)), fun _ => ld1 ONE_3 (h.cell (o := 2))⟩
theorem pin_ok {n m : Int} {w : World} : Gives Tryd.prog 48 #[.int .i64 n, .int .i64 m] w fun u w' => u = .bool (decide (0 ≤ n ∧ n ≤ m)) ∧ w = w' := by
  refine C_plog_within ?_
  unfold S_plog_within
  simp only [xP_nil, xP_pick, xP_func, xP_not, xP_add, xP_sub, xP_mul, xP_lss, xP_leq, xP_gtr, xP_geq, xP_max2, xP_min2, xR_eql, xR_neq, Nat.zero_add, Nat.add_zero, Nat.reduceAdd, List.getD_cons_zero, List.getD_cons_succ, xIf_true, xIf_false, FA_40_0, FA_40_1, FA_64_0, FA_64_1, FA_64_2, FA_67_0, FA_67_1, FA_67_2, FA_67_3, FA_75_0, FA_75_1, FA_75_2, FA_75_3, FA_82_0, FA_82_1, FA_82_2, FA_96_0, FA_96_1, FA_96_2, FA_123_0, FA_123_1, FA_123_2, LEN_34, LEN_38, LEN_51, LEN_56, LEN_60, LEN_65, LEN_83, LEN_88, xIf_dec]
  exact ⟨fun h => ⟨by rw [decide_eq_decide.2 (show (n ≤ m) ↔ (0 ≤ n ∧ n ≤ m) by omega)], rfl⟩, fun h => ⟨by rw [decide_eq_false (by omega)], rfl⟩⟩
theorem pwrapK {op : ByteArray} {k : Int} {w : World} {K : Value → World → Prop} (c : K (optV (pErr op k)) w) : xP Tryd.prog (sIface 25 (.int .i64 k)) fun v => xE Tryd.prog (sCall 14 #[.string op, .int .i64 0, v]) w K := by
  refine (xP_iface CEN).2 ?_
  refine xE_call CF_14 wrap_ok ?_
  rintro _ _ ⟨rfl, rfl⟩
  exact c
theorem pnew_ok {n : Int} {w : World} (h1 : -9223372036854775808 ≤ n) (h2 : n ≤ 9223372036854775807) : Gives Tryd.prog 23 #[.int .i64 n] w fun u w' => Kept [] w w' ∧
    ((n < 0 ∧ u = .tuple #[.pointer none, optV (pErr opPN 1)]) ∨ (0 ≤ n ∧ ∃ p F, u = .tuple #[.pointer (some ⟨p, 0, none⟩), .nilIface] ∧ LogI w' p ⟨[], n, n⟩ F ∧ ∀ g ∈ F, w.heap.size ≤ g)) := by
  refine C_plog_New ?_
  unfold S_plog_New
  simp only [xP_lss, xIf_dec]
  refine ⟨fun hn => ?_, fun hn => ?_⟩
  · refine pwrapK (op := opPN) (k := 1) ?_
    exact ⟨Kept.refl _ _, .inl ⟨hn, rfl⟩⟩
  · refine xE_call CF_47 (new_ok (by omega) (by omega)) ?_
    rintro _ w1 ⟨rfl, hx, hk1, hz1⟩
    refine (xP_build (cells := #[.pointer (some ⟨w.heap.size, 0, none⟩), .int .i64 n, .int .i64 n]) (by kernel_rfl)).2 ?_
    refine xE_box fun w2 hb2 hk2 hz2 => ?_
    refine ⟨hk1.then hk2 (by simp), .inr ⟨by omega, w1.heap.size, _, rfl, ⟨w.heap.size, [w.heap.size], hb2, hx.kept hk2 (by simp), by simp; omega, rfl⟩, fun g hg => ?_⟩⟩
    simp at hg
    rcases hg with rfl | rfl <;> omega
theorem padd_ok {L : Lg} {p : Nat} {F : List Nat} {c t s e : Int} {w : World} (h : LogI w p L F) (hok : L.Ok) (hlen : L.hs.length ≤ 1000000) :
    Gives Tryd.prog 24 #[.pointer (some ⟨p, 0, none⟩), .int .i64 c, .int .i64 t, .int .i64 s, .int .i64 e] w fun u w' => ∃ F', u = .tuple #[.int .i64 (if L.addK c t s e = 0 then L.next else 0), optV (erOp opPA (L.addK c t s e))] ∧ LogI w' p (L.add c t s e) F' ∧ Kept F w w' ∧ ∀ g ∈ F', g ∈ F ∨ w.heap.size ≤ g := by
  obtain ⟨b, Fx, h1, h2, h3, rfl⟩ := h
  have hs0 := hok.s0; have hsn := hok.sn; have hnm := hok.nm
  refine C_plog_Log_Add ?_
  unfold S_plog_Log_Add
  refine xJoin_of (fun ls w' => ls = [.bool (addBad c t s e)] ∧ w = w') ?_ ?_
  · simp only [xP_lss, xP_gtr, xIf_dec]
    unfold addBad
    refine ⟨fun a1 => ⟨by rw [decide_eq_true (show _ ∨ _ from .inl a1)], trivial⟩, fun a1 => ⟨fun a2 => ⟨by rw [decide_eq_true (show _ ∨ _ from .inr (.inl a2))], trivial⟩, fun a2 => ?_⟩⟩
    refine xE_call CF_48 pin_ok ?_
    rintro _ _ ⟨rfl, rfl⟩
    simp only [xP_not, xIf_bool, xP_lss, xIf_dec]
    refine ⟨fun a3 => ⟨by rw [decide_eq_true (show _ ∨ _ from .inr (.inr (.inl (by simp only [Bool.not_eq_true', decide_eq_false_iff_not] at a3; exact a3))))], trivial⟩, fun a3 => ⟨fun a4 => ⟨by rw [decide_eq_true (show _ ∨ _ from .inr (.inr (.inr (.inl a4))))], trivial⟩, fun a4 => ⟨?_, trivial⟩⟩⟩
    have a3 : 0 ≤ t ∧ t ≤ 1125899906842624 := by simpa using a3
    rw [decide_eq_decide.2 (show (e < 0) ↔ (c < 1 ∨ 8 < c ∨ ¬ (0 ≤ t ∧ t ≤ 1125899906842624) ∨ s < 0 ∨ e < 0) by omega)]
  rintro _ _ _ ⟨rfl, rfl⟩
  simp only [List.getD_cons_zero]
  cases hbad : addBad c t s e with
  | true =>
    simp only [xIf_true]
    refine pwrapK (op := opPA) (k := 1) ?_
    have hk1 : L.addK c t s e = 1 := by unfold Lg.addK; rw [hbad]; rfl
    have hadd : L.add c t s e = L := by unfold Lg.add; rw [hk1]; rfl
    rw [hk1, hadd]
    exact ⟨_, rfl, ⟨b, Fx, h1, h2, h3, rfl⟩, Kept.refl _ _, fun g hg => .inl hg⟩
  | false =>
    obtain ⟨L0, L1, L2⟩ := ldL h1
    have hb' : ¬ (c < 1 ∨ 8 < c ∨ ¬ (0 ≤ t ∧ t ≤ 1125899906842624) ∨ s < 0 ∨ e < 0) := of_decide_eq_false hbad
    simp only [xP_nil, xP_pick, xP_func, xP_not, xP_add, xP_sub, xP_mul, xP_lss, xP_leq, xP_gtr, xP_geq, xP_max2, xP_min2, xR_eql, xR_neq, Nat.zero_add, Nat.add_zero, Nat.reduceAdd, List.getD_cons_zero, List.getD_cons_succ, xIf_true, xIf_false, FA_40_0, FA_40_1, FA_64_0, FA_64_1, FA_64_2, FA_67_0, FA_67_1, FA_67_2, FA_67_3, FA_75_0, FA_75_1, FA_75_2, FA_75_3, FA_82_0, FA_82_1, FA_82_2, FA_96_0, FA_96_1, FA_96_2, FA_123_0, FA_123_1, FA_123_2, LEN_34, LEN_38, LEN_51, LEN_56, LEN_60, LEN_65, LEN_83, LEN_88, L2, L0, xIf_false, xIf_dec]
    rw [wrap64 (by omega) (by omega)]
    refine ⟨fun hov => ?_, fun hfit => ?_⟩
    · refine pwrapK (op := opPA) (k := 13) ?_
      have hk1 : L.addK c t s e = 13 := by unfold Lg.addK; rw [hbad]; simp only [Bool.false_eq_true, if_false]; rw [if_pos hov]
      have hadd : L.add c t s e = L := by unfold Lg.add; rw [hk1]; rfl
      rw [hk1, hadd]
      exact ⟨_, rfl, ⟨b, Fx, h1, h2, h3, rfl⟩, Kept.refl _ _, fun g hg => .inl hg⟩
    · have hk1 : L.addK c t s e = 0 := by unfold Lg.addK; rw [hbad]; simp only [Bool.false_eq_true, if_false]; rw [if_neg hfit]
      have hadd : L.add c t s e = ⟨L.hs ++ [⟨L.next, c, t, s, e⟩], L.start, L.next + c⟩ := by unfold Lg.add; rw [hk1]; rfl
      refine (xP_build (cells := (encH ⟨L.next, c, t, s, e⟩).toArray) (by kernel_rfl)).2 ?_
      refine xE_call CF_49 (add_ok (h := ⟨L.next, c, t, s, e⟩) h2 hlen) ?_
      rintro _ w1 ⟨rfl, Fx', hx', hk, hF'⟩
      have hb1 := h1.kept hk h3
      have hp1 := h1.lt
      obtain ⟨M0, M1, M2⟩ := ldL hb1
      simp only [xP_nil, xP_pick, xP_func, xP_not, xP_add, xP_sub, xP_mul, xP_lss, xP_leq, xP_gtr, xP_geq, xP_max2, xP_min2, xR_eql, xR_neq, Nat.zero_add, Nat.add_zero, Nat.reduceAdd, List.getD_cons_zero, List.getD_cons_succ, xIf_true, xIf_false, FA_40_0, FA_40_1, FA_64_0, FA_64_1, FA_64_2, FA_67_0, FA_67_1, FA_67_2, FA_67_3, FA_75_0, FA_75_1, FA_75_2, FA_75_3, FA_82_0, FA_82_1, FA_82_2, FA_96_0, FA_96_1, FA_96_2, FA_123_0, FA_123_1, FA_123_2, LEN_34, LEN_38, LEN_51, LEN_56, LEN_60, LEN_65, LEN_83, LEN_88, M2]
      rw [wrap64 (by omega) (by omega)]
      refine xE_store1 SZ_3 hb1 (by simp) rfl fun w2 hb2 hk2 hz2 => ?_
      have hpF' : p ∉ Fx' := fun hm => (hF' p hm).elim h3 (fun h => by omega)
      rw [hk1, hadd]
      refine ⟨p :: Fx', rfl, ⟨b, Fx', by simpa using hb2, hx'.kept hk2 (fun g hg hm => by simp at hm; subst hm; exact hpF' hg), hpF', rfl⟩, (hk.mono (fun g hg => .inl (List.mem_cons_of_mem _ hg))).then hk2 (by simp), fun g hg => ?_⟩
      rcases List.mem_cons.1 hg with rfl | hg
      · exact .inl List.mem_cons_self
      · exact (hF' g hg).imp (List.mem_cons_of_mem _) id
theorem pstart_ok {L : Lg} {p : Nat} {F : List Nat} {w : World} (h : LogI w p L F) : Gives Tryd.prog 29 #[.pointer (some ⟨p, 0, none⟩)] w fun u w' => u = .int .i64 L.start ∧ w = w' := by
  obtain ⟨b, Fx, h1, h2, h3, rfl⟩ := h
  refine C_plog_Log_Start ?_
  unfold S_plog_Log_Start
  obtain ⟨L0, L1, L2⟩ := ldL h1
  simp only [xP_nil, xP_pick, xP_func, xP_not, xP_add, xP_sub, xP_mul, xP_lss, xP_leq, xP_gtr, xP_geq, xP_max2, xP_min2, xR_eql, xR_neq, Nat.zero_add, Nat.add_zero, Nat.reduceAdd, List.getD_cons_zero, List.getD_cons_succ, xIf_true, xIf_false, FA_40_0, FA_40_1, FA_64_0, FA_64_1, FA_64_2, FA_67_0, FA_67_1, FA_67_2, FA_67_3, FA_75_0, FA_75_1, FA_75_2, FA_75_3, FA_82_0, FA_82_1, FA_82_2, FA_96_0, FA_96_1, FA_96_2, FA_123_0, FA_123_1, FA_123_2, LEN_34, LEN_38, LEN_51, LEN_56, LEN_60, LEN_65, LEN_83, LEN_88, L1]
  exact ⟨rfl, rfl⟩
theorem pnext_ok {L : Lg} {p : Nat} {F : List Nat} {w : World} (h : LogI w p L F) : Gives Tryd.prog 31 #[.pointer (some ⟨p, 0, none⟩)] w fun u w' => u = .int .i64 L.next ∧ w = w' := by
  obtain ⟨b, Fx, h1, h2, h3, rfl⟩ := h
  refine C_plog_Log_Next ?_
  unfold S_plog_Log_Next
  obtain ⟨L0, L1, L2⟩ := ldL h1
  simp only [xP_nil, xP_pick, xP_func, xP_not, xP_add, xP_sub, xP_mul, xP_lss, xP_leq, xP_gtr, xP_geq, xP_max2, xP_min2, xR_eql, xR_neq, Nat.zero_add, Nat.add_zero, Nat.reduceAdd, List.getD_cons_zero, List.getD_cons_succ, xIf_true, xIf_false, FA_40_0, FA_40_1, FA_64_0, FA_64_1, FA_64_2, FA_67_0, FA_67_1, FA_67_2, FA_67_3, FA_75_0, FA_75_1, FA_75_2, FA_75_3, FA_82_0, FA_82_1, FA_82_2, FA_96_0, FA_96_1, FA_96_2, FA_123_0, FA_123_1, FA_123_2, LEN_34, LEN_38, LEN_51, LEN_56, LEN_60, LEN_65, LEN_83, LEN_88, L2]
  exact ⟨rfl, rfl⟩
theorem plen_ok {L : Lg} {p : Nat} {F : List Nat} {w : World} (h : LogI w p L F) : Gives Tryd.prog 30 #[.pointer (some ⟨p, 0, none⟩)] w fun u w' => u = .int .i64 L.hs.length ∧ Kept [] w w' := by
  obtain ⟨b, Fx, h1, h2, h3, rfl⟩ := h
  refine C_plog_Log_Len ?_
  unfold S_plog_Log_Len
  obtain ⟨L0, L1, L2⟩ := ldL h1
  simp only [xP_nil, xP_pick, xP_func, xP_not, xP_add, xP_sub, xP_mul, xP_lss, xP_leq, xP_gtr, xP_geq, xP_max2, xP_min2, xR_eql, xR_neq, Nat.zero_add, Nat.add_zero, Nat.reduceAdd, List.getD_cons_zero, List.getD_cons_succ, xIf_true, xIf_false, FA_40_0, FA_40_1, FA_64_0, FA_64_1, FA_64_2, FA_67_0, FA_67_1, FA_67_2, FA_67_3, FA_75_0, FA_75_1, FA_75_2, FA_75_3, FA_82_0, FA_82_1, FA_82_2, FA_96_0, FA_96_1, FA_96_2, FA_123_0, FA_123_1, FA_123_2, LEN_34, LEN_38, LEN_51, LEN_56, LEN_60, LEN_65, LEN_83, LEN_88, L0]
  refine xE_call CF_51 (len_ok h2) ?_
  rintro _ w1 ⟨rfl, hk1⟩
  exact ⟨rfl, hk1⟩
end Go.Proofs.YtjajjblppogfoaaDoor
