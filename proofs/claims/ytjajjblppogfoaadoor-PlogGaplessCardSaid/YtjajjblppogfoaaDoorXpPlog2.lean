import Derived.Test.YtjajjblppogfoaaDoorXpPlog1
namespace Go.Proofs.YtjajjblppogfoaaDoor
set_option linter.unusedSimpArgs false
set_option linter.unusedVariables false
set_option maxRecDepth 100000
attribute [local irreducible] Go.X.xE
open Go Go.X Go.RowKit

theorem oneH {h : Hd} {w : World} {K : Value → World → Prop} (k : ∀ u w', SlT w' encH u [h] → Kept [] w w' → K u w') : xE Tryd.prog (sBuildSlice 51 1 #[(0, vH h)]) w K :=
  xE_buildSlice EL_51 [vH h] rfl rfl (by intro v hv; simp at hv; subst hv; rfl) (by omega) (by omega) fun w' hb hk _ => k _ _ (slT_blk (l := [h]) (by simpa [vH, Value.cells] using hb)) hk
theorem appH {l l2 : List Hd} {u v : Value} {F : List Nat} {w : World} {K : Value → World → Prop} (ho : Own w 64 5 u l.length (l.flatMap encH) F) (hv : SlT w encH v l2) (hl : l.length + l2.length ≤ 1000000)
    (k : ∀ u' w' F', Own w' 64 5 u' (l ++ l2).length ((l ++ l2).flatMap encH) F' → (∀ g ∈ F', g ∈ F ∨ w.heap.size ≤ g) → Kept F w w' → K u' w') : xE Tryd.prog (sB .append #[51, 51] #[u, v]) w K := by
  refine xE_appendSrc EL_51 ho (Src.ofSlT (l := l2) (e' := 64) (by kernel_rfl) hv encH_len head_cells) (by omega) (by unfold maxLen; omega) fun u2 w2 F2 ho2 hk2 hF2 _ => ?_
  refine k u2 w2 F2 ?_ hF2 hk2
  rw [List.flatMap_append, List.length_append]
  exact ho2
theorem headS {w : World} {b every : Nat} {hs : List Hd} {F : List Nat} {i : Nat} {K : Value → World → Prop} (hx : Ix w b every hs F) (hi : i < hs.length) (k : ∀ w', Kept [] w w' → K (vH hs[i]) w') : xE Tryd.prog (sCall 52 #[.pointer (some ⟨b, 0, none⟩), .int .i64 i]) w K := by
  refine xE_call CF_52 (head_ok hx) ?_
  rintro _ w' ⟨rfl, hk⟩
  rw [if_pos ⟨by omega, by omega⟩, Int.toNat_natCast, List.getD_eq_getElem?_getD, List.getElem?_eq_getElem hi]
  exact k w' hk
theorem ilenS {w : World} {b every : Nat} {hs : List Hd} {F : List Nat} {K : Value → World → Prop} (hx : Ix w b every hs F) (k : ∀ w', Kept [] w w' → K (.int .i64 hs.length) w') : xE Tryd.prog (sCall 51 #[.pointer (some ⟨b, 0, none⟩)]) w K :=
  xE_call CF_51 (len_ok hx) (fun u w' ⟨h1, h2⟩ => by subst h1; exact k w' h2)
theorem pfrom_ok {L : Lg} {p : Nat} {F : List Nat} {o : Int} {w : World} (h : LogI w p L F) (hok : L.Ok) (hlen : L.hs.length ≤ 100000) :
    Gives Tryd.prog 25 #[.pointer (some ⟨p, 0, none⟩), .int .i64 o] w fun u w' => ∃ fv, u = .tuple #[fv, optV (erOp opPF (L.fromK o))] ∧ SlT w' encH fv (L.from o) ∧ Kept [] w w' ∧ ∀ b o n c, fv = .slice (some ⟨b, o, none⟩) n c → w.heap.size ≤ b := by
  obtain ⟨b, Fx, h1, h2, h3, rfl⟩ := h
  have hs0 := hok.s0; have hsn := hok.sn; have hnm := hok.nm
  obtain ⟨L0, L1, L2⟩ := ldL h1
  refine C_plog_Log_From ?_
  unfold S_plog_Log_From
  refine xJoin_of (fun ls w' => ls = [.bool (decide (o < L.start ∨ L.next < o))] ∧ w = w') ?_ ?_
  · simp only [xP_nil, xP_pick, xP_func, xP_not, xP_add, xP_sub, xP_mul, xP_lss, xP_leq, xP_gtr, xP_geq, xP_max2, xP_min2, xR_eql, xR_neq, Nat.zero_add, Nat.add_zero, Nat.reduceAdd, List.getD_cons_zero, List.getD_cons_succ, xIf_true, xIf_false, FA_40_0, FA_40_1, FA_64_0, FA_64_1, FA_64_2, FA_67_0, FA_67_1, FA_67_2, FA_67_3, FA_75_0, FA_75_1, FA_75_2, FA_75_3, FA_82_0, FA_82_1, FA_82_2, FA_96_0, FA_96_1, FA_96_2, FA_123_0, FA_123_1, FA_123_2, LEN_34, LEN_38, LEN_51, LEN_56, LEN_60, LEN_65, LEN_83, LEN_88, L1, L2, xIf_dec]
    exact ⟨fun a => ⟨by rw [decide_eq_true (show _ ∨ _ from .inl a)], trivial⟩, fun a => ⟨by rw [decide_eq_decide.2 (show (L.next < o) ↔ (o < L.start ∨ L.next < o) by omega)], trivial⟩⟩
  rintro _ _ _ ⟨rfl, rfl⟩
  simp only [List.getD_cons_zero, xIf_dec]
  refine ⟨fun hbad => ?_, fun hgood => ?_⟩
  · refine pwrapK (op := opPF) (k := 13) ?_
    have hk1 : L.fromK o = 13 := if_pos hbad
    have hf : L.from o = [] := by unfold Lg.from; rw [hk1]; rfl
    rw [hk1, hf]
    exact ⟨_, rfl, SlT.nil_ _ _, Kept.refl _ _, fun b o n c he => by cases he⟩
  · have hk1 : L.fromK o = 0 := if_neg hgood
    have hf : L.from o = L.seek o := by unfold Lg.from; rw [hk1]; rfl
    rw [hk1, hf]
    simp only [xP_nil, xP_pick, xP_func, xP_not, xP_add, xP_sub, xP_mul, xP_lss, xP_leq, xP_gtr, xP_geq, xP_max2, xP_min2, xR_eql, xR_neq, Nat.zero_add, Nat.add_zero, Nat.reduceAdd, List.getD_cons_zero, List.getD_cons_succ, xIf_true, xIf_false, FA_40_0, FA_40_1, FA_64_0, FA_64_1, FA_64_2, FA_67_0, FA_67_1, FA_67_2, FA_67_3, FA_75_0, FA_75_1, FA_75_2, FA_75_3, FA_82_0, FA_82_1, FA_82_2, FA_96_0, FA_96_1, FA_96_2, FA_123_0, FA_123_1, FA_123_2, LEN_34, LEN_38, LEN_51, LEN_56, LEN_60, LEN_65, LEN_83, LEN_88, L0]
    refine xE_call CF_50 (seek_ok h2 (by omega) hok.gap.sorted (hok.gap.ranged hnm) (fun _ => ⟨by omega, by omega⟩)) ?_
    rintro _ w1 ⟨rfl, hk01⟩
    unfold Lg.seek
    have hkl : L.hs.findIdx (has o) ≤ L.hs.length := List.findIdx_le_length
    generalize L.hs.findIdx (has o) = k at *
    refine xLoop_of (fun ls w' => ∃ (i : Nat) (ov : Value) (Fo : List Nat), ls = [ov, .int .i64 i] ∧ k ≤ i ∧ i ≤ L.hs.length ∧ Own w' 64 5 ov ((L.hs.drop k).take (i - k)).length (((L.hs.drop k).take (i - k)).flatMap encH) Fo ∧ (∀ g ∈ Fo, w.heap.size ≤ g) ∧ Kept [] w w')
      (fun ls _ => match ls with | [_, .int _ i] => L.hs.length - i.toNat | _ => 0) ⟨k, .slice none 0 0, [], rfl, Nat.le_refl _, hkl, by rw [Nat.sub_self, List.take_zero]; exact own_nil _ _ _, by simp, hk01⟩ ?_
    rintro _ _ w2 ⟨i, ov, Fo, rfl, hki, hil, ho, hFo, hk2⟩
    have hx2 := h2.kept hk2 (by simp)
    obtain ⟨M0, M1, M2⟩ := ldL (h1.kept hk2 (by simp))
    simp only [xP_nil, xP_pick, xP_func, xP_not, xP_add, xP_sub, xP_mul, xP_lss, xP_leq, xP_gtr, xP_geq, xP_max2, xP_min2, xR_eql, xR_neq, Nat.zero_add, Nat.add_zero, Nat.reduceAdd, List.getD_cons_zero, List.getD_cons_succ, xIf_true, xIf_false, FA_40_0, FA_40_1, FA_64_0, FA_64_1, FA_64_2, FA_67_0, FA_67_1, FA_67_2, FA_67_3, FA_75_0, FA_75_1, FA_75_2, FA_75_3, FA_82_0, FA_82_1, FA_82_2, FA_96_0, FA_96_1, FA_96_2, FA_123_0, FA_123_1, FA_123_2, LEN_34, LEN_38, LEN_51, LEN_56, LEN_60, LEN_65, LEN_83, LEN_88, M0]
    refine ilenS hx2 fun w3 hk3 => ?_
    have hk03 := hk2.then hk3 (by simp)
    have hx3 := hx2.kept hk3 (by simp)
    obtain ⟨N0, N1, N2⟩ := ldL (h1.kept hk03 (by simp))
    simp only [xP_nil, xP_pick, xP_func, xP_not, xP_add, xP_sub, xP_mul, xP_lss, xP_leq, xP_gtr, xP_geq, xP_max2, xP_min2, xR_eql, xR_neq, Nat.zero_add, Nat.add_zero, Nat.reduceAdd, List.getD_cons_zero, List.getD_cons_succ, xIf_true, xIf_false, FA_40_0, FA_40_1, FA_64_0, FA_64_1, FA_64_2, FA_67_0, FA_67_1, FA_67_2, FA_67_3, FA_75_0, FA_75_1, FA_75_2, FA_75_3, FA_82_0, FA_82_1, FA_82_2, FA_96_0, FA_96_1, FA_96_2, FA_123_0, FA_123_1, FA_123_2, LEN_34, LEN_38, LEN_51, LEN_56, LEN_60, LEN_65, LEN_83, LEN_88, N0, xIf_dec]
    refine ⟨fun hlt => ?_, fun hge => ?_⟩
    · have hlt : i < L.hs.length := by omega
      refine headS hx3 hlt fun w4 hk4 => ?_
      refine oneH fun sv w5 hs5 hk5 => ?_
      have hk25 := (hk3.then hk4 (by simp)).then hk5 (by simp)
      refine appH (ho.kept hk25 (by simp)) hs5 (by rw [List.length_take, List.length_drop]; simp; omega) fun ov' w6 Fo' ho6 hF6 hk6 => ?_
      rw [wrap64 (by omega) (by omega)]
      have hz := (hk2.then hk25 (by simp)).size
      refine ⟨⟨i + 1, ov', Fo', rfl, by omega, hlt, ?_, fun g hg => (hF6 g hg).elim (hFo g) (fun hh => by omega), (hk2.then hk25 (by simp)).then hk6 (fun g hg => .inr (hFo g hg))⟩, by omega⟩
      have e : (L.hs.drop k).take (i + 1 - k) = (L.hs.drop k).take (i - k) ++ [L.hs[i]] := by
        rw [show i + 1 - k = (i - k) + 1 by omega, List.take_succ_eq_append_getElem (by rw [List.length_drop]; omega), List.getElem_drop]
        congr 2
        simp only [show k + (i - k) = i by omega]
      rw [e]
      exact ho6
    · have hi : i = L.hs.length := by omega
      subst hi
      rw [List.take_of_length_le (by rw [List.length_drop]; exact Nat.le_refl _)] at ho
      exact ⟨ov, rfl, (ho.slT encH_len (by omega)).kept0 hk3, hk03, fun bb oo n cc he => hFo _ (ho.addr bb oo n cc he)⟩
theorem ptrim_ok {L : Lg} {p : Nat} {F : List Nat} {o : Int} {w : World} (h : LogI w p L F) (hok : L.Ok) (hlen : L.hs.length ≤ 100000) :
    Gives Tryd.prog 26 #[.pointer (some ⟨p, 0, none⟩), .int .i64 o] w fun u w' => ∃ F', u = optV (erOp opPT (L.trimK o)) ∧ LogI w' p (L.trim o) F' ∧ Kept F w w' ∧ ∀ g ∈ F', g ∈ F ∨ w.heap.size ≤ g := by
  obtain ⟨b, Fx, h1, h2, h3, rfl⟩ := h
  have hs0 := hok.s0; have hsn := hok.sn; have hnm := hok.nm
  obtain ⟨L0, L1, L2⟩ := ldL h1
  refine C_plog_Log_Trim ?_
  unfold S_plog_Log_Trim
  simp only [xP_nil, xP_pick, xP_func, xP_not, xP_add, xP_sub, xP_mul, xP_lss, xP_leq, xP_gtr, xP_geq, xP_max2, xP_min2, xR_eql, xR_neq, Nat.zero_add, Nat.add_zero, Nat.reduceAdd, List.getD_cons_zero, List.getD_cons_succ, xIf_true, xIf_false, FA_40_0, FA_40_1, FA_64_0, FA_64_1, FA_64_2, FA_67_0, FA_67_1, FA_67_2, FA_67_3, FA_75_0, FA_75_1, FA_75_2, FA_75_3, FA_82_0, FA_82_1, FA_82_2, FA_96_0, FA_96_1, FA_96_2, FA_123_0, FA_123_1, FA_123_2, LEN_34, LEN_38, LEN_51, LEN_56, LEN_60, LEN_65, LEN_83, LEN_88, L2]
  refine xE_call CF_48 pin_ok ?_
  rintro _ _ ⟨rfl, rfl⟩
  by_cases hin : 0 ≤ o ∧ o ≤ L.next
  · have hk1 : L.trimK o = 0 := if_pos hin
    rw [decide_eq_true hin]
    simp only [Bool.not_true, xIf_false, xP_not]
    refine xJoin_of (fun ls w' => ∃ F', LogI w' p (L.trim o) F' ∧ Kept (p :: Fx) w w' ∧ ∀ g ∈ F', g ∈ p :: Fx ∨ w.heap.size ≤ g) ?_ ?_
    · simp only [xP_nil, xP_pick, xP_func, xP_not, xP_add, xP_sub, xP_mul, xP_lss, xP_leq, xP_gtr, xP_geq, xP_max2, xP_min2, xR_eql, xR_neq, Nat.zero_add, Nat.add_zero, Nat.reduceAdd, List.getD_cons_zero, List.getD_cons_succ, xIf_true, xIf_false, FA_40_0, FA_40_1, FA_64_0, FA_64_1, FA_64_2, FA_67_0, FA_67_1, FA_67_2, FA_67_3, FA_75_0, FA_75_1, FA_75_2, FA_75_3, FA_82_0, FA_82_1, FA_82_2, FA_96_0, FA_96_1, FA_96_2, FA_123_0, FA_123_1, FA_123_2, LEN_34, LEN_38, LEN_51, LEN_56, LEN_60, LEN_65, LEN_83, LEN_88, L1, xIf_dec]
      refine ⟨fun hgt => ?_, fun hle => ?_⟩
      · have ht : L.trim o = ⟨L.seek o, o, L.next⟩ := if_pos ⟨hk1, hgt⟩
        refine xE_store1 SZ_3 h1 (by simp) rfl fun w1 hb1 hk1' hz1 => ?_
        have hb1 : Blk w1 p 96 [.pointer (some ⟨b, 0, none⟩), .int .i64 o, .int .i64 L.next] := by simpa using hb1
        have hx1 := h2.kept hk1' (fun g hg hm => by simp at hm; subst hm; exact h3 hg)
        have hd := kept_drew [] w1
        have hbd := hb1.kept hd (by simp)
        obtain ⟨M0, M1, M2⟩ := ldL hbd
        simp only [xP_nil, xP_pick, xP_func, xP_not, xP_add, xP_sub, xP_mul, xP_lss, xP_leq, xP_gtr, xP_geq, xP_max2, xP_min2, xR_eql, xR_neq, Nat.zero_add, Nat.add_zero, Nat.reduceAdd, List.getD_cons_zero, List.getD_cons_succ, xIf_true, xIf_false, FA_40_0, FA_40_1, FA_64_0, FA_64_1, FA_64_2, FA_67_0, FA_67_1, FA_67_2, FA_67_3, FA_75_0, FA_75_1, FA_75_2, FA_75_3, FA_82_0, FA_82_1, FA_82_2, FA_96_0, FA_96_1, FA_96_2, FA_123_0, FA_123_1, FA_123_2, LEN_34, LEN_38, LEN_51, LEN_56, LEN_60, LEN_65, LEN_83, LEN_88, M0]
        refine xE_call CF_50 (seek_ok (hx1.kept hd (by simp)) (by omega) hok.gap.sorted (hok.gap.ranged hnm) (fun _ => ⟨by omega, by omega⟩)) ?_
        rintro _ w2 ⟨rfl, hk2⟩
        have hk12 := hd.then hk2 (by simp)
        have hb2 := hb1.kept hk12 (by simp)
        refine (still1 ONE_93 (hb2.cell (o := 0))).2 ?_
        refine xE_call CF_53 (drop_ok (n := (L.hs.findIdx (has o) : Nat)) (hx1.kept hk12 (by simp)) (by omega)) ?_
        rintro _ w3 ⟨rfl, Fx', hx3, hk3, hF3⟩
        rw [Int.toNat_natCast] at hx3
        rw [ht]
        have hz2 := hk12.size
        have hp := h1.lt
        have hpF' : p ∉ Fx' := fun hm => (hF3 p hm).elim h3 (fun h => by omega)
        refine ⟨p :: Fx', ⟨b, Fx', hb2.kept hk3 h3, hx3, hpF', rfl⟩, ((hk1'.mono (by simp)).then hk12 (by simp)).then hk3 (fun g hg => .inl (List.mem_cons_of_mem _ hg)), fun g hg => ?_⟩
        rcases List.mem_cons.1 hg with rfl | hg
        · exact .inl List.mem_cons_self
        · exact (hF3 g hg).imp (List.mem_cons_of_mem _) (fun h => by omega)
      · have ht : L.trim o = L := if_neg (fun hh => hle hh.2)
        rw [ht]
        exact ⟨_, ⟨b, Fx, h1, h2, h3, rfl⟩, Kept.refl _ _, fun g hg => .inl hg⟩
    rintro _ _ w1 ⟨F', hL, hk, hF⟩
    rw [hk1]
    exact ⟨F', rfl, hL, hk, hF⟩
  · have hk1 : L.trimK o = 13 := if_neg hin
    have ht : L.trim o = L := if_neg (fun hh => by rw [hk1] at hh; exact absurd hh.1 (by decide))
    rw [decide_eq_false hin]
    simp only [Bool.not_false, xIf_true, xP_not]
    refine pwrapK (op := opPT) (k := 13) ?_
    rw [hk1, ht]
    exact ⟨_, rfl, ⟨b, Fx, h1, h2, h3, rfl⟩, Kept.refl _ _, fun g hg => .inl hg⟩
theorem newHd {h : Hd} {w : World} {K : Value → World → Prop} (k : ∀ w', Blk w' w.heap.size 64 (encH h) → Kept [] w w' → K (.pointer (some ⟨w.heap.size, 0, none⟩)) w') :
    xE Tryd.prog (sAlloc 64) w fun v w1 => xE Tryd.prog (sStore 64 v (vH h)) w1 fun _ w2 => K v w2 := by
  refine xE_alloc Z_64 fun w1 hb1 hk1 hz1 => ?_
  refine xE_storeN (l1 := []) (l2 := encH zH) (l3 := []) SZ_64 hb1 rfl rfl rfl (head_cells h) fun w2 hb2 hk2 hz2 => ?_
  exact k w2 (by simpa [vH, Value.cells] using hb2) (hk1.trans hk2 (by simp) (by simp))
theorem pdrop_ok {L : Lg} {p : Nat} {F : List Nat} {w : World} (h : LogI w p L F) (hok : L.Ok) (hlen : L.hs.length ≤ 100000) (hne : L.hs ≠ []) :
    Gives Tryd.prog 55 #[.pointer (some ⟨p, 0, none⟩)] w fun u w' => ∃ F', LogI w' p L.drop1 F' ∧ Kept F w w' ∧ ∀ g ∈ F', g ∈ F ∨ w.heap.size ≤ g := by
  obtain ⟨b, Fx, h1, h2, h3, rfl⟩ := h
  obtain ⟨y, ys, hl⟩ := List.exists_cons_of_ne_nil hne
  have hnm := hok.nm
  have hy := hok.gap.1 y (by rw [hl]; simp)
  have hye := hok.gap.end_le (x := y) (by rw [hl]; simp)
  obtain ⟨L0, L1, L2⟩ := ldL h1
  have hp := h1.lt
  refine C_plog_Log_drop ?_
  unfold S_plog_Log_drop
  simp only [xP_nil, xP_pick, xP_func, xP_not, xP_add, xP_sub, xP_mul, xP_lss, xP_leq, xP_gtr, xP_geq, xP_max2, xP_min2, xR_eql, xR_neq, Nat.zero_add, Nat.add_zero, Nat.reduceAdd, List.getD_cons_zero, List.getD_cons_succ, xIf_true, xIf_false, FA_40_0, FA_40_1, FA_64_0, FA_64_1, FA_64_2, FA_67_0, FA_67_1, FA_67_2, FA_67_3, FA_75_0, FA_75_1, FA_75_2, FA_75_3, FA_82_0, FA_82_1, FA_82_2, FA_96_0, FA_96_1, FA_96_2, FA_123_0, FA_123_1, FA_123_2, LEN_34, LEN_38, LEN_51, LEN_56, LEN_60, LEN_65, LEN_83, LEN_88, L0]
  have h0 : 0 < L.hs.length := by rw [hl]; simp
  have ey : L.hs[0] = y := by simp [hl]
  refine headS (i := 0) h2 h0 fun w1 hk1 => ?_
  rw [ey]
  refine newHd fun w2 hb2 hk2 => ?_
  have hk02 := hk1.then hk2 (by simp)
  simp only [xP_nil, xP_pick, xP_func, xP_not, xP_add, xP_sub, xP_mul, xP_lss, xP_leq, xP_gtr, xP_geq, xP_max2, xP_min2, xR_eql, xR_neq, Nat.zero_add, Nat.add_zero, Nat.reduceAdd, List.getD_cons_zero, List.getD_cons_succ, xIf_true, xIf_false, FA_40_0, FA_40_1, FA_64_0, FA_64_1, FA_64_2, FA_67_0, FA_67_1, FA_67_2, FA_67_3, FA_75_0, FA_75_1, FA_75_2, FA_75_3, FA_82_0, FA_82_1, FA_82_2, FA_96_0, FA_96_1, FA_96_2, FA_123_0, FA_123_1, FA_123_2, LEN_34, LEN_38, LEN_51, LEN_56, LEN_60, LEN_65, LEN_83, LEN_88]
  refine (ld1 ONE_3 (hb2.cell (o := 0))).2 ?_
  refine (ld1 ONE_3 (hb2.cell (o := 1))).2 ?_
  try simp only [xP_nil, xP_pick, xP_func, xP_not, xP_add, xP_sub, xP_mul, xP_lss, xP_leq, xP_gtr, xP_geq, xP_max2, xP_min2, xR_eql, xR_neq, Nat.zero_add, Nat.add_zero, Nat.reduceAdd, List.getD_cons_zero, List.getD_cons_succ, xIf_true, xIf_false, FA_40_0, FA_40_1, FA_64_0, FA_64_1, FA_64_2, FA_67_0, FA_67_1, FA_67_2, FA_67_3, FA_75_0, FA_75_1, FA_75_2, FA_75_3, FA_82_0, FA_82_1, FA_82_2, FA_96_0, FA_96_1, FA_96_2, FA_123_0, FA_123_1, FA_123_2, LEN_34, LEN_38, LEN_51, LEN_56, LEN_60, LEN_65, LEN_83, LEN_88]
  rw [wrap64 (by omega) (by omega)]
  refine xE_store1 SZ_3 (h1.kept hk02 (by simp)) (by simp) rfl fun w3 hb3 hk3 hz3 => ?_
  have hb3 : Blk w3 p 96 [.pointer (some ⟨b, 0, none⟩), .int .i64 (y.base + y.count), .int .i64 L.next] := by simpa using hb3
  have hk03 : Kept [p] w w3 := (hk02.mono (by simp)).then hk3 (by simp)
  have hx3 := h2.kept hk03 (fun g hg hm => by simp at hm; subst hm; exact h3 hg)
  obtain ⟨M0, M1, M2⟩ := ldL hb3
  simp only [xP_nil, xP_pick, xP_func, xP_not, xP_add, xP_sub, xP_mul, xP_lss, xP_leq, xP_gtr, xP_geq, xP_max2, xP_min2, xR_eql, xR_neq, Nat.zero_add, Nat.add_zero, Nat.reduceAdd, List.getD_cons_zero, List.getD_cons_succ, xIf_true, xIf_false, FA_40_0, FA_40_1, FA_64_0, FA_64_1, FA_64_2, FA_67_0, FA_67_1, FA_67_2, FA_67_3, FA_75_0, FA_75_1, FA_75_2, FA_75_3, FA_82_0, FA_82_1, FA_82_2, FA_96_0, FA_96_1, FA_96_2, FA_123_0, FA_123_1, FA_123_2, LEN_34, LEN_38, LEN_51, LEN_56, LEN_60, LEN_65, LEN_83, LEN_88, M0]
  refine xE_call CF_53 (drop_ok (n := 1) hx3 (by omega)) ?_
  rintro _ w4 ⟨rfl, Fx', hx4, hk4, hF4⟩
  have ed : L.drop1 = ⟨L.hs.drop 1, y.base + y.count, L.next⟩ := by unfold Lg.drop1; rw [hl]; rfl
  rw [ed]
  have hz := hk03.size
  have hpF' : p ∉ Fx' := fun hm => (hF4 p hm).elim h3 (fun h => by omega)
  refine ⟨p :: Fx', ⟨b, Fx', hb3.kept hk4 h3, hx4, hpF', rfl⟩, (hk03.mono (by simp)).then hk4 (fun g hg => .inl (List.mem_cons_of_mem _ hg)), fun g hg => ?_⟩
  rcases List.mem_cons.1 hg with rfl | hg
  · exact .inl List.mem_cons_self
  · exact (hF4 g hg).imp (List.mem_cons_of_mem _) (fun h => by omega)
end Go.Proofs.YtjajjblppogfoaaDoor
