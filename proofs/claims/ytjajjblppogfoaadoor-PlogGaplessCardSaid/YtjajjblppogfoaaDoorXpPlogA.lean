import Derived.Test.YtjajjblppogfoaaDoorXpPlog9
import Derived.Test.YtjajjblppogfoaaDoorXCopy2
namespace Go.Proofs.YtjajjblppogfoaaDoor
set_option linter.unusedSimpArgs false
set_option linter.unusedVariables false
set_option maxRecDepth 100000
attribute [local irreducible] Go.X.xE
open Go Go.X Go.RowKit

/-! ## The document's own log -/
def RefI (w : World) (p : Nat) (L : Lg) (F : List Nat) : Prop := ∃ hv last Fh, Blk w p 75 [hv, .int .i64 L.start, .int .i64 L.next, .int .i64 last] ∧ Own w 64 5 hv L.hs.length (L.hs.flatMap encH) Fh ∧ p ∉ Fh ∧ F = p :: Fh
theorem RefI.kept {w w' : World} {p : Nat} {L : Lg} {F M : List Nat} (h : RefI w p L F) (hk : Kept M w w') (hd : ∀ g ∈ F, g ∉ M) : RefI w' p L F := by
  obtain ⟨hv, last, Fh, h1, h2, h3, rfl⟩ := h
  exact ⟨hv, last, Fh, h1.kept hk (hd p (by simp)), h2.kept hk (fun g hg => hd g (by simp [hg])), h3, rfl⟩
theorem RefI.kept0 {w w' : World} {p : Nat} {L : Lg} {F : List Nat} (h : RefI w p L F) (hk : Kept [] w w') : RefI w' p L F := h.kept hk (by simp)
theorem RefI.lt {w : World} {p : Nat} {L : Lg} {F : List Nat} (h : RefI w p L F) : ∀ g ∈ F, g < w.heap.size := by
  obtain ⟨hv, last, Fh, h1, h2, h3, rfl⟩ := h
  intro g hg
  rcases List.mem_cons.1 hg with rfl | hg
  · exact h1.lt
  · exact h2.lt g hg
theorem ldRL {w : World} {p : Nat} {hv : Value} {s n t : Int} (h : Blk w p 75 [hv, .int .i64 s, .int .i64 n, .int .i64 t]) :
    (∀ K, xR Tryd.prog (sLoad 51 (.pointer (some ⟨p, 0, none⟩))) w K ↔ K hv) ∧ (∀ K, xR Tryd.prog (sLoad 3 (.pointer (some ⟨p, 1, none⟩))) w K ↔ K (.int .i64 s)) ∧ (∀ K, xR Tryd.prog (sLoad 3 (.pointer (some ⟨p, 2, none⟩))) w K ↔ K (.int .i64 n)) ∧ (∀ K, xR Tryd.prog (sLoad 3 (.pointer (some ⟨p, 3, none⟩))) w K ↔ K (.int .i64 t)) :=
  ⟨fun _ => ld1 ONE_51 (h.cell (o := 0)), fun _ => ld1 ONE_3 (h.cell (o := 1)), fun _ => ld1 ONE_3 (h.cell (o := 2)), fun _ => ld1 ONE_3 (h.cell (o := 3))⟩
theorem rnew_ok {n : Int} {w : World} : Gives Tryd.prog 36 #[.int .i64 n] w fun u w' => Kept [] w w' ∧
    ((n < 0 ∧ u = .tuple #[.pointer none, .int .i64 1]) ∨ (0 ≤ n ∧ ∃ p F, u = .tuple #[.pointer (some ⟨p, 0, none⟩), .int .i64 0] ∧ RefI w' p ⟨[], n, n⟩ F ∧ ∀ g ∈ F, w.heap.size ≤ g)) := by
  refine C_staveref14_NewLog ?_
  unfold S_staveref14_NewLog
  simp only [xP_lss, xIf_dec]
  refine ⟨fun hn => ⟨Kept.refl _ _, .inl ⟨hn, rfl⟩⟩, fun hn => ?_⟩
  refine (xP_build (cells := #[.slice none 0 0, .int .i64 n, .int .i64 n, .int .i64 0]) (by kernel_rfl)).2 ?_
  refine xE_box fun w1 hb1 hk1 hz1 => ?_
  exact ⟨hk1, .inr ⟨by omega, w.heap.size, _, rfl, ⟨_, 0, [], hb1, own_nil _ _ _, by simp, rfl⟩, fun g hg => by simp at hg; omega⟩⟩
theorem one_slice {w : World} {v : Value} {n : Nat} {xs : List Value} {F : List Nat} (h : Own w 64 5 v n xs F) : v.oneCell' = true := by
  rcases h.2 with ⟨rfl, _⟩ | ⟨_, _, _, _, rfl, _⟩ <;> rfl
theorem oneHb {h : Hd} {w : World} {K : Value → World → Prop} (k : ∀ w', SlT w' encH (.slice (some ⟨w.heap.size, 0, none⟩) 1 1) [h] → Kept [] w w' → w'.heap.size = w.heap.size + 1 → K (.slice (some ⟨w.heap.size, 0, none⟩) 1 1) w') : xE Tryd.prog (sBuildSlice 51 1 #[(0, vH h)]) w K :=
  xE_buildSlice EL_51 [vH h] rfl rfl (by intro v hv; simp at hv; subst hv; rfl) (by omega) (by omega) fun w' hb hk hz => k _ (slT_blk (l := [h]) (by simpa [vH, Value.cells] using hb)) hk hz
theorem radd_ok {L : Lg} {p : Nat} {F : List Nat} {c t s e : Int} {w : World} (h : RefI w p L F) (hok : L.Ok) (hlen : L.hs.length ≤ 100000) :
    Gives Tryd.prog 37 #[.pointer (some ⟨p, 0, none⟩), .int .i64 c, .int .i64 t, .int .i64 s, .int .i64 e] w fun u w' => ∃ F', u = .tuple #[.int .i64 (if L.addK c t s e = 0 then L.next else 0), .int .i64 (L.addK c t s e)] ∧ RefI w' p (L.add c t s e) F' ∧ Kept F w w' ∧ ∀ g ∈ F', g ∈ F ∨ w.heap.size ≤ g := by
  obtain ⟨hv, last, Fh, h1, h2, h3, rfl⟩ := h
  have hs0 := hok.s0; have hsn := hok.sn; have hnm := hok.nm
  have h0 : RefI w p L (p :: Fh) := ⟨hv, last, Fh, h1, h2, h3, rfl⟩
  refine C_staveref14_Log_Add ?_
  unfold S_staveref14_Log_Add
  refine xJoin_of (fun ls w' => ls = [.bool (addBad c t s e)] ∧ w = w') ?_ ?_
  · simp only [xP_lss, xP_gtr, xIf_dec]
    unfold addBad
    refine ⟨fun a1 => ⟨by rw [decide_eq_true (show _ ∨ _ from .inl a1)], trivial⟩, fun a1 => ⟨fun a2 => ⟨by rw [decide_eq_true (show _ ∨ _ from .inr (.inl a2))], trivial⟩, fun a2 => ⟨fun a3 => ⟨by rw [decide_eq_true (show _ ∨ _ from .inr (.inr (.inl (by omega))))], trivial⟩, fun a3 => ⟨fun a4 => ⟨by rw [decide_eq_true (show _ ∨ _ from .inr (.inr (.inl (by omega))))], trivial⟩, fun a4 => ⟨fun a5 => ⟨by rw [decide_eq_true (show _ ∨ _ from .inr (.inr (.inr (.inl a5))))], trivial⟩, fun a5 => ⟨?_, trivial⟩⟩⟩⟩⟩⟩
    rw [decide_eq_decide.2 (show (e < 0) ↔ (c < 1 ∨ 8 < c ∨ ¬ (0 ≤ t ∧ t ≤ 1125899906842624) ∨ s < 0 ∨ e < 0) by omega)]
  rintro _ _ _ ⟨rfl, rfl⟩
  simp only [List.getD_cons_zero]
  cases hbad : addBad c t s e with
  | true =>
    simp only [xIf_true]
    have hk1 : L.addK c t s e = 1 := by unfold Lg.addK; rw [hbad]; rfl
    have hadd : L.add c t s e = L := by unfold Lg.add; rw [hk1]; rfl
    rw [hk1, hadd]
    exact ⟨_, rfl, h0, Kept.refl _ _, fun g hg => .inl hg⟩
  | false =>
    have hb' : ¬ (c < 1 ∨ 8 < c ∨ ¬ (0 ≤ t ∧ t ≤ 1125899906842624) ∨ s < 0 ∨ e < 0) := of_decide_eq_false hbad
    obtain ⟨L0, L1, L2, L3⟩ := ldRL h1
    simp only [xP_nil, xP_pick, xP_func, xP_not, xP_add, xP_sub, xP_mul, xP_lss, xP_leq, xP_gtr, xP_geq, xP_max2, xP_min2, xR_eql, xR_neq, Nat.zero_add, Nat.add_zero, Nat.reduceAdd, List.getD_cons_zero, List.getD_cons_succ, xIf_true, xIf_false, FA_40_0, FA_40_1, FA_64_0, FA_64_1, FA_64_2, FA_67_0, FA_67_1, FA_67_2, FA_67_3, FA_75_0, FA_75_1, FA_75_2, FA_75_3, FA_82_0, FA_82_1, FA_82_2, FA_96_0, FA_96_1, FA_96_2, FA_123_0, FA_123_1, FA_123_2, LEN_34, LEN_38, LEN_51, LEN_56, LEN_60, LEN_65, LEN_83, LEN_88, L2, xIf_false, xIf_dec]
    rw [wrap64 (by omega) (by omega)]
    refine ⟨fun hov => ?_, fun hfit => ?_⟩
    · have hk1 : L.addK c t s e = 13 := by unfold Lg.addK; rw [hbad]; simp only [Bool.false_eq_true, if_false]; rw [if_pos hov]
      have hadd : L.add c t s e = L := by unfold Lg.add; rw [hk1]; rfl
      rw [hk1, hadd]
      exact ⟨_, rfl, h0, Kept.refl _ _, fun g hg => .inl hg⟩
    have hk1 : L.addK c t s e = 0 := by unfold Lg.addK; rw [hbad]; simp only [Bool.false_eq_true, if_false]; rw [if_neg hfit]
    have hadd : L.add c t s e = ⟨L.hs ++ [⟨L.next, c, t, s, e⟩], L.start, L.next + c⟩ := by unfold Lg.add; rw [hk1]; rfl
    rw [hk1, hadd]
    generalize hx : (⟨L.next, c, t, s, e⟩ : Hd) = x at *
    refine xJoin_of (fun ls w' => ∃ hv' F', Blk w' p 75 [hv', .int .i64 L.start, .int .i64 L.next, .int .i64 last] ∧ Own w' 64 5 hv' (L.hs ++ [x]).length ((L.hs ++ [x]).flatMap encH) F' ∧ (∀ g ∈ F', w.heap.size ≤ g) ∧ Kept [p] w w') ?_ ?_
    · have hd := kept_drew [] w
      have fin : ∀ {w' : World} {u v : Value} {Fu : List Nat}, Kept [] w w' → Own w' 64 5 u L.hs.length (L.hs.flatMap encH) Fu → (∀ g ∈ Fu, w.heap.size ≤ g) → SlT w' encH v [x] → ∀ {J : World → Prop}, (∀ w' hv' F', Blk w' p 75 [hv', .int .i64 L.start, .int .i64 L.next, .int .i64 last] → Own w' 64 5 hv' (L.hs ++ [x]).length ((L.hs ++ [x]).flatMap encH) F' → (∀ g ∈ F', w.heap.size ≤ g) → Kept [p] w w' → J w') →
          (xE Tryd.prog (sB .append #[51, 51] #[u, v]) w' fun v58 w51 => xE Tryd.prog (sStore 51 (.pointer (some ⟨p, 0, none⟩)) v58) w51 fun _ w54 => J w54) := by
        intro w' u v Fu hk hu hFu hv J kk
        refine appH hu hv (by simp; omega) fun u' w2 F' ho hF hk2 => ?_
        have hk02 := hk.then hk2 (fun g hg => .inr (hFu g hg))
        have hp := h1.lt
        have hz := hk.size
        refine xE_store1 SZ_51 (h1.kept hk02 (by simp)) (by simp) (one_slice ho) fun w3 hb3 hk3 hz3 => ?_
        have hpF : ∀ g ∈ F', w.heap.size ≤ g := fun g hg => (hF g hg).elim (hFu g) (fun h => by omega)
        exact kk w3 u' F' (by simpa using hb3) (ho.kept hk3 (fun g hg hm => by simp at hm; have := hpF g hg; omega)) hpF ((hk02.mono (by simp)).then hk3 (by simp))
      have hfin : ∀ w' hv' F', Blk w' p 75 [hv', .int .i64 L.start, .int .i64 L.next, .int .i64 last] → Own w' 64 5 hv' (L.hs ++ [x]).length ((L.hs ++ [x]).flatMap encH) F' → (∀ g ∈ F', w.heap.size ≤ g) → Kept [p] w w' → ∃ hv' F', Blk w' p 75 [hv', .int .i64 L.start, .int .i64 L.next, .int .i64 last] ∧ Own w' 64 5 hv' (L.hs ++ [x]).length ((L.hs ++ [x]).flatMap encH) F' ∧ (∀ g ∈ F', w.heap.size ≤ g) ∧ Kept [p] w w' := fun w' a b c d e f => ⟨a, b, c, d, e, f⟩
      have hsl := h2.slT encH_len (by omega)
      -- append([]Head{}, heads...)
      have app0 : ∀ {w' w2 : World} {K : Value → World → Prop} {g0 : Nat}, Kept [] w w' → Kept [] w w2 → Own w2 64 5 (.slice (some ⟨g0, 0, none⟩) 0 0) 0 [] [g0] → w.heap.size ≤ g0 → (∀ u w3 F3, Own w3 64 5 u L.hs.length (L.hs.flatMap encH) F3 → (∀ g ∈ F3, g = g0 ∨ w2.heap.size ≤ g) → Kept [g0] w2 w3 → Kept [] w w3 → K u w3) →
          xE Tryd.prog (sB .append #[51, 51] #[.slice (some ⟨g0, 0, none⟩) 0 0, hv]) w2 K := by
        intro w' w2 K g0 hk' hk2 ho hg0 kk
        refine xE_appendSrc EL_51 ho (Src.ofSlT (l := L.hs) (e' := 64) (by kernel_rfl) (hsl.kept0 hk2) encH_len head_cells) (by omega) (by unfold maxLen; omega) fun u w3 F3 ho3 hk3 hF3 _ => ?_
        rw [Nat.zero_add, List.nil_append] at ho3
        exact kk u w3 F3 ho3 (fun g hg => (hF3 g hg).imp (by simp) id) hk3 (hk2.then hk3 (by simp; exact hg0))
      obtain ⟨D0, D1, D2, D3⟩ := ldRL (h1.kept hd (by simp))
      simp only [xP_nil, xP_pick, xP_func, xP_not, xP_add, xP_sub, xP_mul, xP_lss, xP_leq, xP_gtr, xP_geq, xP_max2, xP_min2, xR_eql, xR_neq, Nat.zero_add, Nat.add_zero, Nat.reduceAdd, List.getD_cons_zero, List.getD_cons_succ, xIf_true, xIf_false, FA_40_0, FA_40_1, FA_64_0, FA_64_1, FA_64_2, FA_67_0, FA_67_1, FA_67_2, FA_67_3, FA_75_0, FA_75_1, FA_75_2, FA_75_3, FA_82_0, FA_82_1, FA_82_2, FA_96_0, FA_96_1, FA_96_2, FA_123_0, FA_123_1, FA_123_2, LEN_34, LEN_38, LEN_51, LEN_56, LEN_60, LEN_65, LEN_83, LEN_88, D0, D2]
      refine (xP_build (cells := (encH x).toArray) (by subst hx; kernel_rfl)).2 ?_
      have S0 : ∀ {w' : World} {B : Prop}, Kept [] w w' → (xStill Tryd.prog (sLoad 51 (.pointer (some ⟨p, 0, none⟩))) hv w' B ↔ B) := fun hk => still1 ONE_51 ((h1.kept hk (by simp)).cell (o := 0))
      have S2 : ∀ {w' : World} {B : Prop}, Kept [] w w' → (xStill Tryd.prog (sLoad 3 (.pointer (some ⟨p, 2, none⟩))) (.int .i64 L.next) w' B ↔ B) := fun hk => still1 ONE_3 ((h1.kept hk (by simp)).cell (o := 2))
      refine ⟨?_, ?_⟩
      · refine xE_slice0 EL_51 fun w1 ho1 hk1 hz1 => ?_
        have hk01 := hd.then hk1 (by simp)
        refine (S2 hk01).2 ((S0 hk01).2 ⟨?_, ?_⟩)
        · refine app0 hk01 hk01 ho1 (Nat.le_refl _) fun u w2 F2 ho2 hF2 _ hk02 => ?_
          refine (S2 hk02).2 ?_
          refine oneH (h := x) fun sv w3 hs3 hk3 => ?_
          try simp only [xP_nil, xP_pick, xP_func, xP_not, xP_add, xP_sub, xP_mul, xP_lss, xP_leq, xP_gtr, xP_geq, xP_max2, xP_min2, xR_eql, xR_neq, Nat.zero_add, Nat.add_zero, Nat.reduceAdd, List.getD_cons_zero, List.getD_cons_succ, xIf_true, xIf_false, FA_40_0, FA_40_1, FA_64_0, FA_64_1, FA_64_2, FA_67_0, FA_67_1, FA_67_2, FA_67_3, FA_75_0, FA_75_1, FA_75_2, FA_75_3, FA_82_0, FA_82_1, FA_82_2, FA_96_0, FA_96_1, FA_96_2, FA_123_0, FA_123_1, FA_123_2, LEN_34, LEN_38, LEN_51, LEN_56, LEN_60, LEN_65, LEN_83, LEN_88]
          refine fin (hk02.then hk3 (by simp)) (ho2.kept hk3 (by simp)) (fun g hg => ?_) hs3 hfin
          have := hk01.size
          rcases hF2 g hg with rfl | h
          · exact Nat.le_refl _
          · omega
        · refine oneHb (h := x) fun w2 hs2 hk2 hz2 => ?_
          have hk02 := hk01.then hk2 (by simp)
          refine (S0 hk02).2 ?_
          refine app0 hk02 hk02 (ho1.kept hk2 (by simp)) (Nat.le_refl _) fun u w3 F3 ho3 hF3 hk3 hk03 => ?_
          try simp only [xP_nil, xP_pick, xP_func, xP_not, xP_add, xP_sub, xP_mul, xP_lss, xP_leq, xP_gtr, xP_geq, xP_max2, xP_min2, xR_eql, xR_neq, Nat.zero_add, Nat.add_zero, Nat.reduceAdd, List.getD_cons_zero, List.getD_cons_succ, xIf_true, xIf_false, FA_40_0, FA_40_1, FA_64_0, FA_64_1, FA_64_2, FA_67_0, FA_67_1, FA_67_2, FA_67_3, FA_75_0, FA_75_1, FA_75_2, FA_75_3, FA_82_0, FA_82_1, FA_82_2, FA_96_0, FA_96_1, FA_96_2, FA_123_0, FA_123_1, FA_123_2, LEN_34, LEN_38, LEN_51, LEN_56, LEN_60, LEN_65, LEN_83, LEN_88]
          refine fin hk03 ho3 (fun g hg => ?_) (hs2.kept hk3 (fun b o n c e hm => ?_)) hfin
          · have := hk02.size
            rcases hF3 g hg with rfl | h
            · exact Nat.le_refl _
            · omega
          · cases e
            have hzd : w.drew.heap.size = w.heap.size := rfl
            simp at hm
            omega
      · refine oneHb (h := x) fun w1 hs1 hk1 hz1 => ?_
        have hk01 := hd.then hk1 (by simp)
        refine (S0 hk01).2 ?_
        refine xE_slice0 EL_51 fun w2 ho2 hk2 hz2 => ?_
        have hk02 := hk01.then hk2 (by simp)
        refine (S0 hk02).2 ?_
        have hzd : w.drew.heap.size = w.heap.size := rfl
        refine app0 hk02 hk02 ho2 (by omega) fun u w3 F3 ho3 hF3 hk3 hk03 => ?_
        try simp only [xP_nil, xP_pick, xP_func, xP_not, xP_add, xP_sub, xP_mul, xP_lss, xP_leq, xP_gtr, xP_geq, xP_max2, xP_min2, xR_eql, xR_neq, Nat.zero_add, Nat.add_zero, Nat.reduceAdd, List.getD_cons_zero, List.getD_cons_succ, xIf_true, xIf_false, FA_40_0, FA_40_1, FA_64_0, FA_64_1, FA_64_2, FA_67_0, FA_67_1, FA_67_2, FA_67_3, FA_75_0, FA_75_1, FA_75_2, FA_75_3, FA_82_0, FA_82_1, FA_82_2, FA_96_0, FA_96_1, FA_96_2, FA_123_0, FA_123_1, FA_123_2, LEN_34, LEN_38, LEN_51, LEN_56, LEN_60, LEN_65, LEN_83, LEN_88]
        refine fin hk03 ho3 (fun g hg => ?_) ((hs1.kept0 hk2).kept hk3 (fun b o n c e hm => ?_)) hfin
        · have := hk02.size
          rcases hF3 g hg with rfl | h
          · omega
          · omega
        · cases e
          simp at hm
          omega
    rintro _ _ w1 ⟨hv', F', hb1, ho1, hF1, hk1⟩
    obtain ⟨M0, M1, M2, M3⟩ := ldRL hb1
    have hp := h1.lt
    simp only [xP_nil, xP_pick, xP_func, xP_not, xP_add, xP_sub, xP_mul, xP_lss, xP_leq, xP_gtr, xP_geq, xP_max2, xP_min2, xR_eql, xR_neq, Nat.zero_add, Nat.add_zero, Nat.reduceAdd, List.getD_cons_zero, List.getD_cons_succ, xIf_true, xIf_false, FA_40_0, FA_40_1, FA_64_0, FA_64_1, FA_64_2, FA_67_0, FA_67_1, FA_67_2, FA_67_3, FA_75_0, FA_75_1, FA_75_2, FA_75_3, FA_82_0, FA_82_1, FA_82_2, FA_96_0, FA_96_1, FA_96_2, FA_123_0, FA_123_1, FA_123_2, LEN_34, LEN_38, LEN_51, LEN_56, LEN_60, LEN_65, LEN_83, LEN_88, M2]
    rw [wrap64 (x := L.next + c) (by omega) (by omega)]
    refine xE_store1 SZ_3 hb1 (by simp) rfl fun w2 hb2 hk2 hz2 => ?_
    have hb2 : Blk w2 p 75 [hv', .int .i64 L.start, .int .i64 (L.next + c), .int .i64 last] := by simpa using hb2
    obtain ⟨N0, N1, N2, N3⟩ := ldRL hb2
    simp only [xP_nil, xP_pick, xP_func, xP_not, xP_add, xP_sub, xP_mul, xP_lss, xP_leq, xP_gtr, xP_geq, xP_max2, xP_min2, xR_eql, xR_neq, Nat.zero_add, Nat.add_zero, Nat.reduceAdd, List.getD_cons_zero, List.getD_cons_succ, xIf_true, xIf_false, FA_40_0, FA_40_1, FA_64_0, FA_64_1, FA_64_2, FA_67_0, FA_67_1, FA_67_2, FA_67_3, FA_75_0, FA_75_1, FA_75_2, FA_75_3, FA_82_0, FA_82_1, FA_82_2, FA_96_0, FA_96_1, FA_96_2, FA_123_0, FA_123_1, FA_123_2, LEN_34, LEN_38, LEN_51, LEN_56, LEN_60, LEN_65, LEN_83, LEN_88, N3]
    refine xE_store1 SZ_3 hb2 (by simp) rfl fun w3 hb3 hk3 hz3 => ?_
    have hb3 : Blk w3 p 75 [hv', .int .i64 L.start, .int .i64 (L.next + c), .int .i64 (max last t)] := by simpa using hb3
    obtain ⟨O0, O1, O2, O3⟩ := ldRL hb3
    simp only [xP_nil, xP_pick, xP_func, xP_not, xP_add, xP_sub, xP_mul, xP_lss, xP_leq, xP_gtr, xP_geq, xP_max2, xP_min2, xR_eql, xR_neq, Nat.zero_add, Nat.add_zero, Nat.reduceAdd, List.getD_cons_zero, List.getD_cons_succ, xIf_true, xIf_false, FA_40_0, FA_40_1, FA_64_0, FA_64_1, FA_64_2, FA_67_0, FA_67_1, FA_67_2, FA_67_3, FA_75_0, FA_75_1, FA_75_2, FA_75_3, FA_82_0, FA_82_1, FA_82_2, FA_96_0, FA_96_1, FA_96_2, FA_123_0, FA_123_1, FA_123_2, LEN_34, LEN_38, LEN_51, LEN_56, LEN_60, LEN_65, LEN_83, LEN_88, O2]
    rw [wrap64 (by omega) (by omega), show L.next + c - c = L.next by omega]
    have hpF : p ∉ F' := fun hm => by have := hF1 p hm; omega
    have ho3 := (ho1.kept hk2 (fun g hg hm => by simp at hm; subst hm; exact hpF hg)).kept hk3 (fun g hg hm => by simp at hm; subst hm; exact hpF hg)
    refine ⟨p :: F', by simp only [if_true], ⟨hv', _, F', hb3, ho3, hpF, rfl⟩, ((hk1.then hk2 (by simp)).then hk3 (by simp)).mono (fun g hg => .inl (by simp at hg; subst hg; exact List.mem_cons_self)), fun g hg => ?_⟩
    rcases List.mem_cons.1 hg with rfl | hg
    · exact .inl List.mem_cons_self
    · exact .inr (hF1 g hg)
/-- The offsets at which Seek can't run over. -/
theorem seek_wrap {L : Lg} (hok : L.Ok) {o : Int} (h1 : 0 ≤ o) : ∀ h ∈ L.hs, IntKind.i64.wrap (o - h.base) = o - h.base ∨ True := fun _ _ => .inr trivial
theorem rseekS {L : Lg} {hv : Value} {o : Int} {w : World} {K : Value → World → Prop} (hsl : SlT w encH hv L.hs) (hok : L.Ok) (hlen : L.hs.length ≤ 100000) (h1 : 0 ≤ o) (h2 : o ≤ 9223372036854775807) (k : ∀ w', Kept [] w w' → K (.int .i64 (L.hs.findIdx (has o) : Nat)) w') :
    xE Tryd.prog (sCall 56 #[hv, .int .i64 o]) w K := by
  refine xE_call CF_56 (rseek_ok hsl (by omega) (fun h hm => ?_)) (fun u w' ⟨e, hk⟩ => by subst e; exact k w' hk)
  have := hok.gap.1 h hm
  have := hok.gap.end_le hm
  have := hok.nm
  exact wrap64 (by omega) (by omega)
theorem cutV {l : List Hd} {hv : Value} {w : World} {k : Nat} {K : Value → Prop} (hsl : SlT w encH hv l) (hk : k ≤ l.length) (kk : ∀ v, (∀ w', Kept [] w w' → SlT w' encH v (l.drop k)) → K v) :
    xP Tryd.prog (sSlice 51 hv (some (.int .i64 (k : Nat))) none none) K := by
  obtain ⟨a, c, rfl, hc, hr⟩ := hsl
  have hsl : SlT w encH (.slice a l.length c) l := ⟨a, c, rfl, hc, hr⟩
  refine (xP_from SL_51 SZ_64 (by omega) (by omega)).2 ?_
  have hf := SlT_from encH_len hsl hk
  rw [Int.toNat_natCast]
  exact kk _ fun w' hk' => hf.kept0 hk'
theorem appCut {l : List Hd} {v : Value} {w w2 : World} {g0 : Nat} {K : Value → World → Prop} (hsl : SlT w2 encH v l) (hl : l.length ≤ 100000) (ho : Own w2 64 5 (.slice (some ⟨g0, 0, none⟩) 0 0) 0 [] [g0]) (hk2 : Kept [] w w2) (hg0 : w.heap.size ≤ g0)
    (kk : ∀ u w3 F3, Own w3 64 5 u l.length (l.flatMap encH) F3 → (∀ g ∈ F3, w.heap.size ≤ g) → Kept [] w w3 → K u w3) :
    xE Tryd.prog (sB .append #[51, 51] #[.slice (some ⟨g0, 0, none⟩) 0 0, v]) w2 K := by
  refine xE_appendSrc EL_51 ho (Src.ofSlT (l := l) (e' := 64) (by kernel_rfl) hsl encH_len head_cells) (by omega) (by unfold maxLen; omega) fun u w3 F3 ho3 hk3 hF3 _ => ?_
  rw [Nat.zero_add, List.nil_append] at ho3
  refine kk u w3 F3 ho3 (fun g hg => ?_) (hk2.then hk3 (by simp; exact hg0))
  have := hk2.size
  rcases hF3 g hg with h | h
  · simp at h; omega
  · omega
theorem rfrom_ok {L : Lg} {p : Nat} {F : List Nat} {o : Int} {w : World} (h : RefI w p L F) (hok : L.Ok) (hlen : L.hs.length ≤ 100000) :
    Gives Tryd.prog 38 #[.pointer (some ⟨p, 0, none⟩), .int .i64 o] w fun u w' => ∃ fv, u = .tuple #[fv, .int .i64 (L.fromK o)] ∧ SlT w' encH fv (L.from o) ∧ Kept [] w w' := by
  obtain ⟨hv, last, Fh, h1, h2, h3, rfl⟩ := h
  have hs0 := hok.s0; have hsn := hok.sn; have hnm := hok.nm
  obtain ⟨L0, L1, L2, L3⟩ := ldRL h1
  refine C_staveref14_Log_From ?_
  unfold S_staveref14_Log_From
  refine xJoin_of (fun ls w' => ls = [.bool (decide (o < L.start ∨ L.next < o))] ∧ w = w') ?_ ?_
  · simp only [xP_nil, xP_pick, xP_func, xP_not, xP_add, xP_sub, xP_mul, xP_lss, xP_leq, xP_gtr, xP_geq, xP_max2, xP_min2, xR_eql, xR_neq, Nat.zero_add, Nat.add_zero, Nat.reduceAdd, List.getD_cons_zero, List.getD_cons_succ, xIf_true, xIf_false, FA_40_0, FA_40_1, FA_64_0, FA_64_1, FA_64_2, FA_67_0, FA_67_1, FA_67_2, FA_67_3, FA_75_0, FA_75_1, FA_75_2, FA_75_3, FA_82_0, FA_82_1, FA_82_2, FA_96_0, FA_96_1, FA_96_2, FA_123_0, FA_123_1, FA_123_2, LEN_34, LEN_38, LEN_51, LEN_56, LEN_60, LEN_65, LEN_83, LEN_88, L1, L2, xIf_dec]
    exact ⟨fun a => ⟨by rw [decide_eq_true (show _ ∨ _ from .inl a)], trivial⟩, fun a => ⟨by rw [decide_eq_decide.2 (show (L.next < o) ↔ (o < L.start ∨ L.next < o) by omega)], trivial⟩⟩
  rintro _ _ _ ⟨rfl, rfl⟩
  simp only [List.getD_cons_zero, xIf_dec]
  refine ⟨fun hbad => ?_, fun hgood => ?_⟩
  · have hk1 : L.fromK o = 13 := if_pos hbad
    have hf : L.from o = [] := by unfold Lg.from; rw [hk1]; rfl
    rw [hk1, hf]
    exact ⟨_, rfl, SlT.nil_ _ _, Kept.refl _ _⟩
  · have hk1 : L.fromK o = 0 := if_neg hgood
    have hf : L.from o = L.hs.drop (L.hs.findIdx (has o)) := by unfold Lg.from; rw [hk1]; rfl
    rw [hk1, hf]
    have hd := kept_drew [] w
    have hzd : w.drew.heap.size = w.heap.size := rfl
    obtain ⟨D0, D1, D2, D3⟩ := ldRL (h1.kept hd (by simp))
    simp only [xP_nil, xP_pick, xP_func, xP_not, xP_add, xP_sub, xP_mul, xP_lss, xP_leq, xP_gtr, xP_geq, xP_max2, xP_min2, xR_eql, xR_neq, Nat.zero_add, Nat.add_zero, Nat.reduceAdd, List.getD_cons_zero, List.getD_cons_succ, xIf_true, xIf_false, FA_40_0, FA_40_1, FA_64_0, FA_64_1, FA_64_2, FA_67_0, FA_67_1, FA_67_2, FA_67_3, FA_75_0, FA_75_1, FA_75_2, FA_75_3, FA_82_0, FA_82_1, FA_82_2, FA_96_0, FA_96_1, FA_96_2, FA_123_0, FA_123_1, FA_123_2, LEN_34, LEN_38, LEN_51, LEN_56, LEN_60, LEN_65, LEN_83, LEN_88, D0]
    have hsl := h2.slT encH_len (by omega)
    have S0 : ∀ {w' : World} {B : Prop}, Kept [] w w' → (xStill Tryd.prog (sLoad 51 (.pointer (some ⟨p, 0, none⟩))) hv w' B ↔ B) := fun hk => still1 ONE_51 ((h1.kept hk (by simp)).cell (o := 0))
    have hkl : L.hs.findIdx (has o) ≤ L.hs.length := List.findIdx_le_length
    refine ⟨?_, ?_⟩
    · refine xE_slice0 EL_51 fun w1 ho1 hk1 hz1 => ?_
      have hk01 := hd.then hk1 (by simp)
      refine (S0 hk01).2 ((S0 hk01).2 ?_)
      refine rseekS (hsl.kept0 hk01) hok hlen (by omega) (by omega) fun w2 hk2 => ?_
      have hk02 := hk01.then hk2 (by simp)
      refine (S0 hk02).2 ?_
      refine cutV (hsl.kept0 hk02) hkl fun v hv => ?_
      refine appCut (w := w) (hv _ (Kept.refl _ _)) (by rw [List.length_drop]; omega) (ho1.kept hk2 (by simp)) hk02 (Nat.le_refl _) fun u w3 F3 ho3 hF3 hk3 => ?_
      exact ⟨u, rfl, ho3.slT encH_len (by omega), hk3⟩
    · refine rseekS (hsl.kept0 hd) hok hlen (by omega) (by omega) fun w1 hk1 => ?_
      have hk01 := hd.then hk1 (by simp)
      refine (S0 hk01).2 ?_
      refine cutV (hsl.kept0 hk01) hkl fun v hv => ?_
      refine xE_slice0 EL_51 fun w2 ho2 hk2 hz2 => ?_
      have hk02 := hk01.then hk2 (by simp)
      refine (S0 hk02).2 ?_
      have := hk01.size
      refine appCut (w := w) (hv _ hk2) (by rw [List.length_drop]; omega) ho2 hk02 (by omega) fun u w3 F3 ho3 hF3 hk3 => ?_
      exact ⟨u, rfl, ho3.slT encH_len (by omega), hk3⟩
theorem rtrim_ok {L : Lg} {p : Nat} {F : List Nat} {o : Int} {w : World} (h : RefI w p L F) (hok : L.Ok) (hlen : L.hs.length ≤ 100000) :
    Gives Tryd.prog 39 #[.pointer (some ⟨p, 0, none⟩), .int .i64 o] w fun u w' => ∃ F', u = .int .i64 (L.trimK o) ∧ RefI w' p (L.trim o) F' ∧ Kept F w w' ∧ ∀ g ∈ F', g ∈ F ∨ w.heap.size ≤ g := by
  obtain ⟨hv, last, Fh, h1, h2, h3, rfl⟩ := h
  have h0 : RefI w p L (p :: Fh) := ⟨hv, last, Fh, h1, h2, h3, rfl⟩
  have hs0 := hok.s0; have hsn := hok.sn; have hnm := hok.nm
  obtain ⟨L0, L1, L2, L3⟩ := ldRL h1
  refine C_staveref14_Log_Trim ?_
  unfold S_staveref14_Log_Trim
  refine xJoin_of (fun ls w' => ls = [.bool (decide (¬ (0 ≤ o ∧ o ≤ L.next)))] ∧ w = w') ?_ ?_
  · simp only [xP_nil, xP_pick, xP_func, xP_not, xP_add, xP_sub, xP_mul, xP_lss, xP_leq, xP_gtr, xP_geq, xP_max2, xP_min2, xR_eql, xR_neq, Nat.zero_add, Nat.add_zero, Nat.reduceAdd, List.getD_cons_zero, List.getD_cons_succ, xIf_true, xIf_false, FA_40_0, FA_40_1, FA_64_0, FA_64_1, FA_64_2, FA_67_0, FA_67_1, FA_67_2, FA_67_3, FA_75_0, FA_75_1, FA_75_2, FA_75_3, FA_82_0, FA_82_1, FA_82_2, FA_96_0, FA_96_1, FA_96_2, FA_123_0, FA_123_1, FA_123_2, LEN_34, LEN_38, LEN_51, LEN_56, LEN_60, LEN_65, LEN_83, LEN_88, L2, xIf_dec]
    exact ⟨fun a => ⟨by rw [decide_eq_true (show ¬ (0 ≤ o ∧ o ≤ L.next) by omega)], trivial⟩, fun a => ⟨by rw [decide_eq_decide.2 (show (L.next < o) ↔ ¬ (0 ≤ o ∧ o ≤ L.next) by omega)], trivial⟩⟩
  rintro _ _ _ ⟨rfl, rfl⟩
  simp only [List.getD_cons_zero, xIf_dec]
  refine ⟨fun hbad => ?_, fun hgood => ?_⟩
  · have hk1 : L.trimK o = 13 := if_neg hbad
    have ht : L.trim o = L := if_neg (fun hh => by rw [hk1] at hh; exact absurd hh.1 (by decide))
    rw [hk1, ht]
    exact ⟨_, rfl, h0, Kept.refl _ _, fun g hg => .inl hg⟩
  have hgood : 0 ≤ o ∧ o ≤ L.next := by omega
  have hk1 : L.trimK o = 0 := if_pos hgood
  simp only [xP_nil, xP_pick, xP_func, xP_not, xP_add, xP_sub, xP_mul, xP_lss, xP_leq, xP_gtr, xP_geq, xP_max2, xP_min2, xR_eql, xR_neq, Nat.zero_add, Nat.add_zero, Nat.reduceAdd, List.getD_cons_zero, List.getD_cons_succ, xIf_true, xIf_false, FA_40_0, FA_40_1, FA_64_0, FA_64_1, FA_64_2, FA_67_0, FA_67_1, FA_67_2, FA_67_3, FA_75_0, FA_75_1, FA_75_2, FA_75_3, FA_82_0, FA_82_1, FA_82_2, FA_96_0, FA_96_1, FA_96_2, FA_123_0, FA_123_1, FA_123_2, LEN_34, LEN_38, LEN_51, LEN_56, LEN_60, LEN_65, LEN_83, LEN_88, L1, xIf_dec]
  refine ⟨fun hle => ?_, fun hgt => ?_⟩
  · have ht : L.trim o = L := if_neg (fun hh => by omega)
    rw [hk1, ht]
    exact ⟨_, rfl, h0, Kept.refl _ _, fun g hg => .inl hg⟩
  have ht : L.trim o = ⟨L.hs.drop (L.hs.findIdx (has o)), o, L.next⟩ := if_pos ⟨hk1, by omega⟩
  rw [hk1, ht]
  have hkl : L.hs.findIdx (has o) ≤ L.hs.length := List.findIdx_le_length
  have hsl := h2.slT encH_len (by omega)
  have hbase : ∀ b o n c, hv = .slice (some ⟨b, o, none⟩) n c → b ≠ p := fun b o n c e hb => by have := h2.addr b o n c e; subst hb; exact h3 this
  refine xE_store1 SZ_3 h1 (by simp) rfl fun w1 hb1 hk1' hz1 => ?_
  have hb1 : Blk w1 p 75 [hv, .int .i64 o, .int .i64 L.next, .int .i64 last] := by simpa using hb1
  have hsl1 : SlT w1 encH hv L.hs := hsl.kept hk1' (fun b o n c e hm => by simp at hm; exact hbase b o n c e hm)
  have hp := h1.lt
  refine xJoin_of (fun ls w' => ∃ hv' F', Blk w' p 75 [hv', .int .i64 o, .int .i64 L.next, .int .i64 last] ∧ Own w' 64 5 hv' (L.hs.drop (L.hs.findIdx (has o))).length ((L.hs.drop (L.hs.findIdx (has o))).flatMap encH) F' ∧ (∀ g ∈ F', w.heap.size ≤ g) ∧ Kept [p] w w') ?_ ?_
  · have hd := kept_drew [] w1
    have hzd : w1.drew.heap.size = w1.heap.size := rfl
    obtain ⟨D0, D1, D2, D3⟩ := ldRL (hb1.kept hd (by simp))
    simp only [xP_nil, xP_pick, xP_func, xP_not, xP_add, xP_sub, xP_mul, xP_lss, xP_leq, xP_gtr, xP_geq, xP_max2, xP_min2, xR_eql, xR_neq, Nat.zero_add, Nat.add_zero, Nat.reduceAdd, List.getD_cons_zero, List.getD_cons_succ, xIf_true, xIf_false, FA_40_0, FA_40_1, FA_64_0, FA_64_1, FA_64_2, FA_67_0, FA_67_1, FA_67_2, FA_67_3, FA_75_0, FA_75_1, FA_75_2, FA_75_3, FA_82_0, FA_82_1, FA_82_2, FA_96_0, FA_96_1, FA_96_2, FA_123_0, FA_123_1, FA_123_2, LEN_34, LEN_38, LEN_51, LEN_56, LEN_60, LEN_65, LEN_83, LEN_88, D0]
    have S0 : ∀ {w' : World} {B : Prop}, Kept [] w1 w' → (xStill Tryd.prog (sLoad 51 (.pointer (some ⟨p, 0, none⟩))) hv w' B ↔ B) := fun hk => still1 ONE_51 ((hb1.kept hk (by simp)).cell (o := 0))
    have fin : ∀ {w3 : World} {u : Value} {F3 : List Nat} {n : Nat} {xs : List Value} {K : World → Prop}, Own w3 64 5 u n xs F3 → (∀ g ∈ F3, w1.heap.size ≤ g) → Kept [] w1 w3 → (∀ w4, Blk w4 p 75 [u, .int .i64 o, .int .i64 L.next, .int .i64 last] → Own w4 64 5 u n xs F3 → Kept [p] w w4 → K w4) →
        xE Tryd.prog (sStore 51 (.pointer (some ⟨p, 0, none⟩)) u) w3 fun _ w' => K w' := by
      intro w3 u F3 n xs K ho hF hk kk
      refine xE_store1 SZ_51 (hb1.kept hk (by simp)) (by simp) (one_slice ho) fun w4 hb4 hk4 hz4 => ?_
      exact kk w4 (by simpa using hb4) (ho.kept hk4 (fun g hg hm => by simp at hm; have := hF g hg; omega)) ((hk1'.then hk (by simp)).then hk4 (by simp))
    refine ⟨?_, ?_⟩
    · refine xE_slice0 EL_51 fun w2 ho2 hk2 hz2 => ?_
      have hk02 := hd.then hk2 (by simp)
      refine (S0 hk02).2 ((S0 hk02).2 ?_)
      refine rseekS (hsl1.kept0 hk02) hok hlen (by omega) (by omega) fun w3 hk3 => ?_
      have hk03 := hk02.then hk3 (by simp)
      refine (S0 hk03).2 ?_
      refine cutV (hsl1.kept0 hk03) hkl fun v hv => ?_
      refine appCut (w := w1) (hv _ (Kept.refl _ _)) (by rw [List.length_drop]; omega) (ho2.kept hk3 (by simp)) hk03 (Nat.le_refl _) fun u w4 F4 ho4 hF4 hk4 => ?_
      try simp only [xP_nil, xP_pick, xP_func, xP_not, xP_add, xP_sub, xP_mul, xP_lss, xP_leq, xP_gtr, xP_geq, xP_max2, xP_min2, xR_eql, xR_neq, Nat.zero_add, Nat.add_zero, Nat.reduceAdd, List.getD_cons_zero, List.getD_cons_succ, xIf_true, xIf_false, FA_40_0, FA_40_1, FA_64_0, FA_64_1, FA_64_2, FA_67_0, FA_67_1, FA_67_2, FA_67_3, FA_75_0, FA_75_1, FA_75_2, FA_75_3, FA_82_0, FA_82_1, FA_82_2, FA_96_0, FA_96_1, FA_96_2, FA_123_0, FA_123_1, FA_123_2, LEN_34, LEN_38, LEN_51, LEN_56, LEN_60, LEN_65, LEN_83, LEN_88]
      exact fin ho4 hF4 hk4 fun w5 hb5 ho5 hk5 => ⟨u, F4, hb5, ho5, fun g hg => by have := hF4 g hg; omega, hk5⟩
    · refine rseekS (hsl1.kept0 hd) hok hlen (by omega) (by omega) fun w2 hk2 => ?_
      have hk02 := hd.then hk2 (by simp)
      refine (S0 hk02).2 ?_
      refine cutV (hsl1.kept0 hk02) hkl fun v hv => ?_
      refine xE_slice0 EL_51 fun w3 ho3 hk3 hz3 => ?_
      have hk03 := hk02.then hk3 (by simp)
      refine (S0 hk03).2 ?_
      have := hk02.size
      refine appCut (w := w1) (hv _ hk3) (by rw [List.length_drop]; omega) ho3 hk03 (by omega) fun u w4 F4 ho4 hF4 hk4 => ?_
      try simp only [xP_nil, xP_pick, xP_func, xP_not, xP_add, xP_sub, xP_mul, xP_lss, xP_leq, xP_gtr, xP_geq, xP_max2, xP_min2, xR_eql, xR_neq, Nat.zero_add, Nat.add_zero, Nat.reduceAdd, List.getD_cons_zero, List.getD_cons_succ, xIf_true, xIf_false, FA_40_0, FA_40_1, FA_64_0, FA_64_1, FA_64_2, FA_67_0, FA_67_1, FA_67_2, FA_67_3, FA_75_0, FA_75_1, FA_75_2, FA_75_3, FA_82_0, FA_82_1, FA_82_2, FA_96_0, FA_96_1, FA_96_2, FA_123_0, FA_123_1, FA_123_2, LEN_34, LEN_38, LEN_51, LEN_56, LEN_60, LEN_65, LEN_83, LEN_88]
      exact fin ho4 hF4 hk4 fun w5 hb5 ho5 hk5 => ⟨u, F4, hb5, ho5, fun g hg => by have := hF4 g hg; omega, hk5⟩
  rintro _ _ w2 ⟨hv', F', hb2, ho2, hF2, hk2⟩
  refine ⟨p :: F', rfl, ⟨hv', last, F', hb2, ho2, fun hm => by have := hF2 p hm; omega, rfl⟩, hk2.mono (fun g hg => .inl (by simp at hg; subst hg; exact List.mem_cons_self)), fun g hg => ?_⟩
  rcases List.mem_cons.1 hg with rfl | hg
  · exact .inl List.mem_cons_self
  · exact .inr (hF2 g hg)
/-- One head goes: the part that Keep and Older share. -/
theorem rdrop {L : Lg} {p : Nat} {F : List Nat} {w : World} {K : World → Prop} (h : RefI w p L F) (hok : L.Ok) (hlen : L.hs.length ≤ 100000) (hne : 0 < L.hs.length) (kk : ∀ w' F', RefI w' p L.drop1 F' → Kept F w w' → (∀ g ∈ F', g ∈ F ∨ w.heap.size ≤ g) → K w') :
    xR Tryd.prog (sLoad 51 (.pointer (some ⟨p, 0, none⟩))) w fun v21 => xP Tryd.prog (sIA 51 v21 (.int .i64 0)) fun v22 => xR Tryd.prog (sLoad 64 v22) w fun v23 =>
      xE Tryd.prog (sAlloc 64) w fun v6 w21 => xE Tryd.prog (sStore 64 v6 v23) w21 fun _ w22 =>
      xP Tryd.prog (sFA 64 v6 0) fun v25 => xR Tryd.prog (sLoad 3 v25) w22 fun v26 => xP Tryd.prog (sFA 64 v6 1) fun v27 => xR Tryd.prog (sLoad 3 v27) w22 fun v28 => xP Tryd.prog (sBin .add 3 v26 v28) fun v29 =>
      xE Tryd.prog (sStore 3 (.pointer (some ⟨p, 1, none⟩)) v29) w22 fun _ w30 => xE Tryd.prog (sBuildSlice 51 0 #[]) w30 fun v33 w32 => xR Tryd.prog (sLoad 51 (.pointer (some ⟨p, 0, none⟩))) w32 fun v37 =>
      xP Tryd.prog (sSlice 51 v37 (some (.int .i64 1)) none none) fun v38 => xE Tryd.prog (sB .append #[51, 51] #[v33, v38]) w32 fun v39 w38 => xE Tryd.prog (sStore 51 (.pointer (some ⟨p, 0, none⟩)) v39) w38 fun _ w41 => K w41 := by
  obtain ⟨hv, last, Fh, h1, h2, h3, rfl⟩ := h
  have hsl := h2.slT encH_len (by omega)
  have hp := h1.lt
  have hnm := hok.nm
  have hr := hok.gap.1 _ (List.getElem_mem hne)
  have he := hok.gap.end_le (List.getElem_mem hne)
  have hbase : ∀ b o n c, hv = .slice (some ⟨b, o, none⟩) n c → b ≠ p := fun b o n c e hb => by have := h2.addr b o n c e; subst hb; exact h3 this
  obtain ⟨L0, L1, L2, L3⟩ := ldRL h1
  simp only [L0]
  refine (rowHd.get (i := 0) hsl (Kept.refl _ _) hne).2 ?_
  have ed : L.drop1 = ⟨L.hs.drop 1, (L.hs[0]).base + (L.hs[0]).count, L.next⟩ := by
    unfold Lg.drop1
    split
    · rename_i hl; rw [hl] at hne; simp at hne
    · rename_i y ys hl; simp [hl]
  generalize L.hs[0] = y at *
  refine newHd fun w2 hb2 hk2 => ?_
  simp only [xP_nil, xP_pick, xP_func, xP_not, xP_add, xP_sub, xP_mul, xP_lss, xP_leq, xP_gtr, xP_geq, xP_max2, xP_min2, xR_eql, xR_neq, Nat.zero_add, Nat.add_zero, Nat.reduceAdd, List.getD_cons_zero, List.getD_cons_succ, xIf_true, xIf_false, FA_40_0, FA_40_1, FA_64_0, FA_64_1, FA_64_2, FA_67_0, FA_67_1, FA_67_2, FA_67_3, FA_75_0, FA_75_1, FA_75_2, FA_75_3, FA_82_0, FA_82_1, FA_82_2, FA_96_0, FA_96_1, FA_96_2, FA_123_0, FA_123_1, FA_123_2, LEN_34, LEN_38, LEN_51, LEN_56, LEN_60, LEN_65, LEN_83, LEN_88]
  refine (ld1 ONE_3 (hb2.cell (o := 0))).2 ?_
  refine (ld1 ONE_3 (hb2.cell (o := 1))).2 ?_
  simp only [xP_nil, xP_pick, xP_func, xP_not, xP_add, xP_sub, xP_mul, xP_lss, xP_leq, xP_gtr, xP_geq, xP_max2, xP_min2, xR_eql, xR_neq, Nat.zero_add, Nat.add_zero, Nat.reduceAdd, List.getD_cons_zero, List.getD_cons_succ, xIf_true, xIf_false, FA_40_0, FA_40_1, FA_64_0, FA_64_1, FA_64_2, FA_67_0, FA_67_1, FA_67_2, FA_67_3, FA_75_0, FA_75_1, FA_75_2, FA_75_3, FA_82_0, FA_82_1, FA_82_2, FA_96_0, FA_96_1, FA_96_2, FA_123_0, FA_123_1, FA_123_2, LEN_34, LEN_38, LEN_51, LEN_56, LEN_60, LEN_65, LEN_83, LEN_88]
  rw [wrap64 (by omega) (by omega)]
  refine xE_store1 SZ_3 (h1.kept hk2 (by simp)) (by simp) rfl fun w3 hb3 hk3 hz3 => ?_
  have hb3 : Blk w3 p 75 [hv, .int .i64 (y.base + y.count), .int .i64 L.next, .int .i64 last] := by simpa using hb3
  have hk03 : Kept [p] w w3 := (hk2.mono (by simp)).then hk3 (by simp)
  have hsl3 : SlT w3 encH hv L.hs := hsl.kept hk03 (fun b o n c e hm => by simp at hm; exact hbase b o n c e hm)
  have hz2 := hk2.size
  refine xE_slice0 EL_51 fun w4 ho4 hk4 hz4 => ?_
  obtain ⟨M0, M1, M2, M3⟩ := ldRL (hb3.kept hk4 (by simp))
  simp only [M0]
  refine cutV (k := 1) (hsl3.kept0 hk4) hne fun v hv' => ?_
  refine appCut (w := w3) (hv' _ (Kept.refl _ _)) (by rw [List.length_drop]; omega) ho4 hk4 (Nat.le_refl _) fun u w5 F5 ho5 hF5 hk5 => ?_
  refine xE_store1 SZ_51 (hb3.kept hk5 (by simp)) (by simp) (one_slice ho5) fun w6 hb6 hk6 hz6 => ?_
  have hF5' : ∀ g ∈ F5, w.heap.size ≤ g := fun g hg => by have := hF5 g hg; omega
  have hpF : p ∉ F5 := fun hm => by have := hF5' p hm; omega
  refine kk w6 (p :: F5) ?_ (((hk03.then hk5 (by simp)).then hk6 (by simp)).mono (fun g hg => .inl (by simp at hg; subst hg; exact List.mem_cons_self))) (fun g hg => ?_)
  · rw [ed]
    exact ⟨u, last, F5, by simpa using hb6, ho5.kept hk6 (fun g hg hm => by simp at hm; subst hm; exact hpF hg), hpF, rfl⟩
  · rcases List.mem_cons.1 hg with rfl | hg
    · exact .inl List.mem_cons_self
    · exact .inr (hF5' g hg)
theorem rkeep_ok {L : Lg} {p : Nat} {F : List Nat} {most : Int} {w : World} (h : RefI w p L F) (hok : L.Ok) (hlen : L.hs.length ≤ 100000) :
    Gives Tryd.prog 40 #[.pointer (some ⟨p, 0, none⟩), .int .i64 most] w fun u w' => ∃ F', u = .int .i64 (L.keepN most) ∧ RefI w' p (L.dropN (L.keepN most)) F' ∧ Kept F w w' ∧ ∀ g ∈ F', g ∈ F ∨ w.heap.size ≤ g := by
  refine C_staveref14_Log_Keep ?_
  unfold S_staveref14_Log_Keep
  refine xLoop_of (fun ls w' => ∃ (i : Nat) (F' : List Nat), ls = [.int .i64 i] ∧ i ≤ L.keepN most ∧ RefI w' p (L.dropN i) F' ∧ Kept F w w' ∧ ∀ g ∈ F', g ∈ F ∨ w.heap.size ≤ g)
    (fun ls _ => match ls with | [.int _ i] => L.keepN most - i.toNat | _ => 0) ⟨0, F, rfl, by omega, h, Kept.refl _ _, fun g hg => .inl hg⟩ ?_
  rintro _ _ w1 ⟨i, F1, rfl, hi, h1, hk1, hF1⟩
  have hkl : L.keepN most ≤ L.hs.length := by unfold Lg.keepN; split <;> omega
  have hhs := dropN_hs L i
  have hdl : (L.dropN i).hs.length = L.hs.length - i := by rw [hhs, List.length_drop]
  refine xJoin_of (fun ls w' => ls = [.bool (decide (i < L.keepN most))] ∧ w1 = w') ?_ ?_
  · obtain ⟨hv, last, Fh, a1, a2, a3, rfl⟩ := h1
    obtain ⟨L0, L1, L2, L3⟩ := ldRL a1
    obtain ⟨a, c, e, _⟩ := a2.slT encH_len (by omega)
    subst e
    simp only [xP_nil, xP_pick, xP_func, xP_not, xP_add, xP_sub, xP_mul, xP_lss, xP_leq, xP_gtr, xP_geq, xP_max2, xP_min2, xR_eql, xR_neq, Nat.zero_add, Nat.add_zero, Nat.reduceAdd, List.getD_cons_zero, List.getD_cons_succ, xIf_true, xIf_false, FA_40_0, FA_40_1, FA_64_0, FA_64_1, FA_64_2, FA_67_0, FA_67_1, FA_67_2, FA_67_3, FA_75_0, FA_75_1, FA_75_2, FA_75_3, FA_82_0, FA_82_1, FA_82_2, FA_96_0, FA_96_1, FA_96_2, FA_123_0, FA_123_1, FA_123_2, LEN_34, LEN_38, LEN_51, LEN_56, LEN_60, LEN_65, LEN_83, LEN_88, L0, xIf_dec]
    refine ⟨fun hm => ⟨?_, trivial⟩, fun hm => ⟨?_, trivial⟩⟩
    · rw [hdl, decide_eq_decide.2 (show (most < ((L.hs.length - i : Nat) : Int)) ↔ i < L.keepN most by unfold Lg.keepN; rw [if_pos hm]; omega)]
    · rw [decide_eq_false (by unfold Lg.keepN; rw [if_neg hm]; omega)]
  rintro _ _ _ ⟨rfl, rfl⟩
  have hz1 := hk1.size
  simp only [List.getD_cons_zero, xIf_dec]
  refine ⟨fun hgo => ?_, fun hstop => ?_⟩
  · have := rdrop (K := fun w41 => xP Tryd.prog (sBin .add 3 (.int .i64 i) (.int .i64 1)) fun v43 => (∃ (j : Nat) (F' : List Nat), [v43] = [Value.int .i64 j] ∧ j ≤ L.keepN most ∧ RefI w41 p (L.dropN j) F' ∧ Kept F w w41 ∧ ∀ g ∈ F', g ∈ F ∨ w.heap.size ≤ g) ∧ (match [v43] with | [.int _ j] => L.keepN most - j.toNat | _ => 0) < L.keepN most - (i : Int).toNat) h1 (dropN_ok hok i) (by omega) (by omega) (fun w3 F3 h3 hk3 hF3 => ?_)
    · simp only [xP_nil, xP_pick, xP_func, xP_not, xP_add, xP_sub, xP_mul, xP_lss, xP_leq, xP_gtr, xP_geq, xP_max2, xP_min2, xR_eql, xR_neq, Nat.zero_add, Nat.add_zero, Nat.reduceAdd, List.getD_cons_zero, List.getD_cons_succ, xIf_true, xIf_false, FA_40_0, FA_40_1, FA_64_0, FA_64_1, FA_64_2, FA_67_0, FA_67_1, FA_67_2, FA_67_3, FA_75_0, FA_75_1, FA_75_2, FA_75_3, FA_82_0, FA_82_1, FA_82_2, FA_96_0, FA_96_1, FA_96_2, FA_123_0, FA_123_1, FA_123_2, LEN_34, LEN_38, LEN_51, LEN_56, LEN_60, LEN_65, LEN_83, LEN_88] at this ⊢
      exact this
    · refine xP_add.2 ?_
      rw [wrap64 (by omega) (by omega)]
      refine ⟨⟨i + 1, F3, rfl, hgo, h3, hk1.then hk3 hF1, fun g hg => (hF3 g hg).elim (hF1 g) (fun h => .inr (by omega))⟩, ?_⟩
      show L.keepN most - ((i : Int) + 1).toNat < _
      omega
  · obtain rfl : i = L.keepN most := by omega
    exact ⟨F1, rfl, h1, hk1, hF1⟩
theorem rolder_ok {L : Lg} {p : Nat} {F : List Nat} {t : Int} {w : World} (h : RefI w p L F) (hok : L.Ok) (hlen : L.hs.length ≤ 100000) :
    Gives Tryd.prog 41 #[.pointer (some ⟨p, 0, none⟩), .int .i64 t] w fun u w' => ∃ F', u = .int .i64 (L.olderN t) ∧ RefI w' p (L.dropN (L.olderN t)) F' ∧ Kept F w w' ∧ ∀ g ∈ F', g ∈ F ∨ w.heap.size ≤ g := by
  refine C_staveref14_Log_Older ?_
  unfold S_staveref14_Log_Older
  have hol : L.olderN t ≤ L.hs.length := List.findIdx_le_length
  refine xLoop_of (fun ls w' => ∃ (i : Nat) (F' : List Nat), ls = [.int .i64 i] ∧ i ≤ L.olderN t ∧ RefI w' p (L.dropN i) F' ∧ Kept F w w' ∧ ∀ g ∈ F', g ∈ F ∨ w.heap.size ≤ g)
    (fun ls _ => match ls with | [.int _ i] => L.olderN t - i.toNat | _ => 0) ⟨0, F, rfl, by omega, h, Kept.refl _ _, fun g hg => .inl hg⟩ ?_
  rintro _ _ w1 ⟨i, F1, rfl, hi, h1, hk1, hF1⟩
  have hhs := dropN_hs L i
  have hdl : (L.dropN i).hs.length = L.hs.length - i := by rw [hhs, List.length_drop]
  refine xJoin_of (fun ls w' => ls = [.bool (decide (i < L.olderN t))] ∧ w1 = w') ?_ ?_
  · obtain ⟨hv, last, Fh, a1, a2, a3, rfl⟩ := h1
    obtain ⟨L0, L1, L2, L3⟩ := ldRL a1
    have hsl := a2.slT encH_len (by omega)
    obtain ⟨a, c, e, r1, r2⟩ := hsl
    subst e
    have hsl : SlT w1 encH (.slice a (L.dropN i).hs.length c) (L.dropN i).hs := ⟨a, c, rfl, r1, r2⟩
    simp only [xP_nil, xP_pick, xP_func, xP_not, xP_add, xP_sub, xP_mul, xP_lss, xP_leq, xP_gtr, xP_geq, xP_max2, xP_min2, xR_eql, xR_neq, Nat.zero_add, Nat.add_zero, Nat.reduceAdd, List.getD_cons_zero, List.getD_cons_succ, xIf_true, xIf_false, FA_40_0, FA_40_1, FA_64_0, FA_64_1, FA_64_2, FA_67_0, FA_67_1, FA_67_2, FA_67_3, FA_75_0, FA_75_1, FA_75_2, FA_75_3, FA_82_0, FA_82_1, FA_82_2, FA_96_0, FA_96_1, FA_96_2, FA_123_0, FA_123_1, FA_123_2, LEN_34, LEN_38, LEN_51, LEN_56, LEN_60, LEN_65, LEN_83, LEN_88, L0, xIf_dec]
    refine ⟨fun hpos => ?_, fun hno => ⟨by rw [decide_eq_false (by omega)], trivial⟩⟩
    have h0 : 0 < (L.dropN i).hs.length := by omega
    have hil : i < L.hs.length := by omega
    have e0 : (L.dropN i).hs[0] = L.hs[i] := by simp [hhs]
    refine rowHd.fldA (i := 0) hsl (Kept.refl _ _) h0 (show fieldB Tryd.prog 64 2 2 = true by kernel_rfl) ONE_3 (u := .int .i64 (L.hs[i]).time) (by rw [e0]; rfl) fun A hA => ?_
    simp only [xP_nil, xP_pick, xP_func, xP_not, xP_add, xP_sub, xP_mul, xP_lss, xP_leq, xP_gtr, xP_geq, xP_max2, xP_min2, xR_eql, xR_neq, Nat.zero_add, Nat.add_zero, Nat.reduceAdd, List.getD_cons_zero, List.getD_cons_succ, xIf_true, xIf_false, FA_40_0, FA_40_1, FA_64_0, FA_64_1, FA_64_2, FA_67_0, FA_67_1, FA_67_2, FA_67_3, FA_75_0, FA_75_1, FA_75_2, FA_75_3, FA_82_0, FA_82_1, FA_82_2, FA_96_0, FA_96_1, FA_96_2, FA_123_0, FA_123_1, FA_123_2, LEN_34, LEN_38, LEN_51, LEN_56, LEN_60, LEN_65, LEN_83, LEN_88]
    refine ⟨?_, trivial⟩
    congr 2
    rw [decide_eq_decide.2]
    constructor
    · intro hlt
      rcases Nat.lt_or_ge i (L.olderN t) with hh | hh
      · exact hh
      · have hei : i = L.olderN t := by omega
        have hfl : L.hs.findIdx (fun h => decide (t ≤ h.time)) < L.hs.length := by unfold Lg.olderN at hei; omega
        have hp := List.findIdx_getElem (w := hfl)
        have : L.hs[i] = L.hs[L.hs.findIdx (fun h => decide (t ≤ h.time))]'hfl := by congr 1
        rw [← this] at hp
        have := of_decide_eq_true hp
        omega
    · intro hlt
      have hp : decide (t ≤ (L.hs[i]).time) = false := List.not_of_lt_findIdx hlt
      have := of_decide_eq_false hp
      omega
  rintro _ _ _ ⟨rfl, rfl⟩
  have hz1 := hk1.size
  simp only [List.getD_cons_zero, xIf_dec]
  refine ⟨fun hgo => ?_, fun hstop => ?_⟩
  · have := rdrop (K := fun w41 => xP Tryd.prog (sBin .add 3 (.int .i64 i) (.int .i64 1)) fun v43 => (∃ (j : Nat) (F' : List Nat), [v43] = [Value.int .i64 j] ∧ j ≤ L.olderN t ∧ RefI w41 p (L.dropN j) F' ∧ Kept F w w41 ∧ ∀ g ∈ F', g ∈ F ∨ w.heap.size ≤ g) ∧ (match [v43] with | [.int _ j] => L.olderN t - j.toNat | _ => 0) < L.olderN t - (i : Int).toNat) h1 (dropN_ok hok i) (by omega) (by omega) (fun w3 F3 h3 hk3 hF3 => ?_)
    · simp only [xP_nil, xP_pick, xP_func, xP_not, xP_add, xP_sub, xP_mul, xP_lss, xP_leq, xP_gtr, xP_geq, xP_max2, xP_min2, xR_eql, xR_neq, Nat.zero_add, Nat.add_zero, Nat.reduceAdd, List.getD_cons_zero, List.getD_cons_succ, xIf_true, xIf_false, FA_40_0, FA_40_1, FA_64_0, FA_64_1, FA_64_2, FA_67_0, FA_67_1, FA_67_2, FA_67_3, FA_75_0, FA_75_1, FA_75_2, FA_75_3, FA_82_0, FA_82_1, FA_82_2, FA_96_0, FA_96_1, FA_96_2, FA_123_0, FA_123_1, FA_123_2, LEN_34, LEN_38, LEN_51, LEN_56, LEN_60, LEN_65, LEN_83, LEN_88] at this ⊢
      exact this
    · refine xP_add.2 ?_
      rw [wrap64 (by omega) (by omega)]
      refine ⟨⟨i + 1, F3, rfl, hgo, h3, hk1.then hk3 hF1, fun g hg => (hF3 g hg).elim (hF1 g) (fun h => .inr (by omega))⟩, ?_⟩
      show L.olderN t - ((i : Int) + 1).toNat < _
      omega
  · obtain rfl : i = L.olderN t := by omega
    exact ⟨F1, rfl, h1, hk1, hF1⟩
end Go.Proofs.YtjajjblppogfoaaDoor
