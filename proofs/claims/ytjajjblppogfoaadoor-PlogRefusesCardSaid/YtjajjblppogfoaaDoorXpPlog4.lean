import Derived.Test.YtjajjblppogfoaaDoorXpPlog3
namespace Go.Proofs.YtjajjblppogfoaaDoor
set_option linter.unusedSimpArgs false
set_option linter.unusedVariables false
set_option maxRecDepth 100000
attribute [local irreducible] Go.X.xE
open Go Go.X Go.RowKit

theorem BOOLG : boolB Tryd.prog 4 := by unfold boolB; kernel_rfl
/-- A log that was made after w0. -/
def PS (w0 w : World) (p : Nat) (L : Lg) : Prop := ∃ F, LogI w p L F ∧ (∀ g ∈ F, w0.heap.size ≤ g) ∧ Kept [] w0 w
theorem PS.k0 {w0 w : World} {p : Nat} {L : Lg} (h : PS w0 w p L) : Kept [] w0 w := by obtain ⟨F, _, _, h⟩ := h; exact h
theorem PS.next {w0 w w' : World} {p : Nat} {L : Lg} (h : PS w0 w p L) (hk : Kept [] w w') : PS w0 w' p L := by
  obtain ⟨F, h1, h2, h3⟩ := h
  exact ⟨F, h1.kept0 hk, h2, h3.then hk (by simp)⟩
theorem optKind_erOp (op : ByteArray) (k : Int) : optKind (erOp op k) = k := by
  unfold erOp
  split
  · rename_i h; rw [h]; rfl
  · rfl
theorem erOp_plain {op : ByteArray} {k : Int} : ∀ x, erOp op k = some x → Er.plain x := by
  intro x hx
  unfold erOp at hx
  split at hx
  · cases hx
  · cases hx; trivial
theorem kindOp {op : ByteArray} {k : Int} {w : World} {K : Value → World → Prop} (hg : Glob w) (c : ∀ w', Kept [] w w' → K (.int .i64 k) w') : xE Tryd.prog (sCall 17 #[optV (erOp op k)]) w K :=
  kindS erOp_plain hg (fun w' hk => by rw [optKind_erOp]; exact c w' hk)
theorem erOp_none {op : ByteArray} {k : Int} : (erOp op k).isNone = decide (k = 0) := by
  unfold erOp
  split
  · rename_i h; rw [decide_eq_true h]; rfl
  · rename_i h; rw [decide_eq_false h]; rfl
theorem erOp_some {op : ByteArray} {k : Int} : (erOp op k).isSome = !decide (k = 0) := by
  unfold erOp
  split
  · rename_i h; rw [decide_eq_true h]; rfl
  · rename_i h; rw [decide_eq_false h]; rfl
theorem newLS {n : Int} {w : World} {K : Value → World → Prop} (h1 : 0 ≤ n) (h2 : n ≤ 9223372036854775807) (k : ∀ p w', PS w w' p ⟨[], n, n⟩ → K (.tuple #[.pointer (some ⟨p, 0, none⟩), .nilIface]) w') : xE Tryd.prog (sCall 23 #[.int .i64 n]) w K := by
  refine xE_call CF_23 (pnew_ok (by omega) h2) ?_
  rintro u w' ⟨hk, h⟩
  rcases h with ⟨h, _⟩ | ⟨_, p, F, rfl, hL, hF⟩
  · omega
  · exact k p w' ⟨F, hL, hF, hk⟩
theorem newNegS {n : Int} {w : World} {K : Value → World → Prop} (h1 : n < 0) (h2 : -9223372036854775808 ≤ n) (k : ∀ w', Kept [] w w' → K (.tuple #[.pointer none, optV (pErr opPN 1)]) w') : xE Tryd.prog (sCall 23 #[.int .i64 n]) w K := by
  refine xE_call CF_23 (pnew_ok h2 (by omega)) ?_
  rintro u w' ⟨hk, h⟩
  rcases h with ⟨_, rfl⟩ | ⟨h, _⟩
  · exact k w' hk
  · omega
theorem addLS {L : Lg} {p : Nat} {c t s e : Int} {w0 w : World} {K : Value → World → Prop} (h : PS w0 w p L) (hok : L.Ok) (hlen : L.hs.length ≤ 1000) (k : ∀ w', PS w0 w' p (L.add c t s e) → K (.tuple #[.int .i64 (if L.addK c t s e = 0 then L.next else 0), optV (erOp opPA (L.addK c t s e))]) w') :
    xE Tryd.prog (sCall 24 #[.pointer (some ⟨p, 0, none⟩), .int .i64 c, .int .i64 t, .int .i64 s, .int .i64 e]) w K := by
  obtain ⟨F, h1, h2, h3⟩ := h
  refine xE_call CF_24 (padd_ok h1 hok (by omega)) ?_
  rintro _ w' ⟨F', rfl, hL, hk, hF⟩
  have := h3.size
  exact k w' ⟨F', hL, fun g hg => (hF g hg).elim (h2 g) (fun h => by omega), h3.then hk (fun g hg => .inr (h2 g hg))⟩
theorem trimLS {L : Lg} {p : Nat} {o : Int} {w0 w : World} {K : Value → World → Prop} (h : PS w0 w p L) (hok : L.Ok) (hlen : L.hs.length ≤ 1000) (k : ∀ w', PS w0 w' p (L.trim o) → K (optV (erOp opPT (L.trimK o))) w') :
    xE Tryd.prog (sCall 26 #[.pointer (some ⟨p, 0, none⟩), .int .i64 o]) w K := by
  obtain ⟨F, h1, h2, h3⟩ := h
  refine xE_call CF_26 (ptrim_ok h1 hok (by omega)) ?_
  rintro _ w' ⟨F', rfl, hL, hk, hF⟩
  have := h3.size
  exact k w' ⟨F', hL, fun g hg => (hF g hg).elim (h2 g) (fun h => by omega), h3.then hk (fun g hg => .inr (h2 g hg))⟩
theorem keepLS {L : Lg} {p : Nat} {m : Int} {w0 w : World} {K : Value → World → Prop} (h : PS w0 w p L) (hok : L.Ok) (hlen : L.hs.length ≤ 1000) (k : ∀ w', PS w0 w' p (L.dropN (L.keepN m)) → K (.int .i64 (L.keepN m)) w') :
    xE Tryd.prog (sCall 33 #[.pointer (some ⟨p, 0, none⟩), .int .i64 m]) w K := by
  obtain ⟨F, h1, h2, h3⟩ := h
  refine xE_call CF_33 (pkeep_ok h1 hok (by omega)) ?_
  rintro _ w' ⟨F', rfl, hL, hk, hF⟩
  have := h3.size
  exact k w' ⟨F', hL, fun g hg => (hF g hg).elim (h2 g) (fun h => by omega), h3.then hk (fun g hg => .inr (h2 g hg))⟩
theorem olderLS {L : Lg} {p : Nat} {m : Int} {w0 w : World} {K : Value → World → Prop} (h : PS w0 w p L) (hok : L.Ok) (hlen : L.hs.length ≤ 1000) (k : ∀ w', PS w0 w' p (L.dropN (L.olderN m)) → K (.int .i64 (L.olderN m)) w') :
    xE Tryd.prog (sCall 34 #[.pointer (some ⟨p, 0, none⟩), .int .i64 m]) w K := by
  obtain ⟨F, h1, h2, h3⟩ := h
  refine xE_call CF_34 (polder_ok h1 hok (by omega)) ?_
  rintro _ w' ⟨F', rfl, hL, hk, hF⟩
  have := h3.size
  exact k w' ⟨F', hL, fun g hg => (hF g hg).elim (h2 g) (fun h => by omega), h3.then hk (fun g hg => .inr (h2 g hg))⟩
theorem fromLS {L : Lg} {p : Nat} {o : Int} {w0 w : World} {K : Value → World → Prop} (h : PS w0 w p L) (hok : L.Ok) (hlen : L.hs.length ≤ 1000) (k : ∀ fv w', SlT w' encH fv (L.from o) → Kept [] w w' → (∀ b o n c, fv = .slice (some ⟨b, o, none⟩) n c → w.heap.size ≤ b) → K (.tuple #[fv, optV (erOp opPF (L.fromK o))]) w') :
    xE Tryd.prog (sCall 25 #[.pointer (some ⟨p, 0, none⟩), .int .i64 o]) w K := by
  obtain ⟨F, h1, h2, h3⟩ := h
  refine xE_call CF_25 (pfrom_ok h1 hok (by omega)) ?_
  rintro _ w' ⟨fv, rfl, hf, hk, hfr⟩
  exact k fv w' hf hk hfr
theorem atLS {L : Lg} {p : Nat} {t : Int} {w0 w : World} {K : Value → World → Prop} (h : PS w0 w p L) (hlen : L.hs.length ≤ 1000) (k : ∀ w', Kept [] w w' → K (.int .i64 (L.at t)) w') :
    xE Tryd.prog (sCall 32 #[.pointer (some ⟨p, 0, none⟩), .int .i64 t]) w K := by
  obtain ⟨F, h1, h2, h3⟩ := h
  exact xE_call CF_32 (pat_ok h1 (by omega)) (fun u w' ⟨e, hk⟩ => by subst e; exact k w' hk)
theorem startLS {L : Lg} {p : Nat} {w0 w : World} {K : Value → World → Prop} (h : PS w0 w p L) (k : K (.int .i64 L.start) w) : xE Tryd.prog (sCall 29 #[.pointer (some ⟨p, 0, none⟩)]) w K := by
  obtain ⟨F, h1, h2, h3⟩ := h
  exact xE_call CF_29 (pstart_ok h1) (fun u w' ⟨e, hk⟩ => by subst e; subst hk; exact k)
theorem nextLS {L : Lg} {p : Nat} {w0 w : World} {K : Value → World → Prop} (h : PS w0 w p L) (k : K (.int .i64 L.next) w) : xE Tryd.prog (sCall 31 #[.pointer (some ⟨p, 0, none⟩)]) w K := by
  obtain ⟨F, h1, h2, h3⟩ := h
  exact xE_call CF_31 (pnext_ok h1) (fun u w' ⟨e, hk⟩ => by subst e; subst hk; exact k)
theorem lenLS {L : Lg} {p : Nat} {w0 w : World} {K : Value → World → Prop} (h : PS w0 w p L) (k : ∀ w', Kept [] w w' → K (.int .i64 L.hs.length) w') : xE Tryd.prog (sCall 30 #[.pointer (some ⟨p, 0, none⟩)]) w K := by
  obtain ⟨F, h1, h2, h3⟩ := h
  exact xE_call CF_30 (plen_ok h1) (fun u w' ⟨e, hk⟩ => by subst e; exact k w' hk)
theorem Lg.ok0 {n : Int} (h0 : 0 ≤ n) (h1 : n ≤ 9223372036854775807) : (⟨[], n, n⟩ : Lg).Ok := ⟨h0, Int.le_refl _, h1, Gap.nil _, fun _ => rfl, fun x hx => by simp at hx⟩
theorem Lg.add_len (L : Lg) (c t s e : Int) : (L.add c t s e).hs.length ≤ L.hs.length + 1 := by unfold Lg.add; split <;> simp
theorem Lg.trim_len (L : Lg) (o : Int) : (L.trim o).hs.length ≤ L.hs.length := by
  unfold Lg.trim
  split
  · show (L.hs.drop _).length ≤ _; rw [List.length_drop]; omega
  · exact Nat.le_refl _
theorem Lg.dropN_len (L : Lg) (n : Nat) : (L.dropN n).hs.length ≤ L.hs.length := by rw [dropN_hs, List.length_drop]; omega
theorem rowHd : RowB Tryd.prog 51 64 5 encH vH := RowB.agg SL_51 SZ_64 encH_len AGG_64
theorem rowInt : RowB Tryd.prog 56 3 1 encI (Value.int .i64) := RowB.one SL_56 SZ_3 ONE_3
theorem newInts {l : List Int} {n : Nat} {parts : Array (Nat × Value)} {w : World} {K : Value → World → Prop} (hn : l.length = n) (hpos : 0 < n) (hs : n ≤ 1000) (hp : parts.toList = ((l.map (Value.int .i64)).zipIdx).map fun p => (p.2, p.1))
    (k : ∀ u w', SlT w' encI u l → Kept [] w w' → K u w') : xE Tryd.prog (sBuildSlice 56 n parts) w K := by
  refine xE_buildSlice EL_56 (l.map (Value.int .i64)) hp (by simp [hn]) (by intro v hv; obtain ⟨y, -, rfl⟩ := List.mem_map.1 hv; rfl) hpos (by omega) fun w' hb hk hz => ?_
  have hcells : (l.map (Value.int .i64)).flatMap (fun v => v.cells.toList) = l.flatMap encI := by rw [List.flatMap_map]; rfl
  rw [hcells] at hb
  have := slT_blk hb
  rw [hn] at this
  exact k _ _ this hk
theorem bases_ok {hs : List Hd} {v : Value} {w : World} (h : SlT w encH v hs) (hl : hs.length ≤ 1000) : Gives Tryd.prog 28 #[v] w fun u w' => SlT w' encI u (hs.map Hd.base) ∧ Kept [] w w' := by
  obtain ⟨a, c, rfl, hc, hr⟩ := h
  have h : SlT w encH (.slice a hs.length c) hs := ⟨a, c, rfl, hc, hr⟩
  refine C_stavelaw17_bases ?_
  unfold S_stavelaw17_bases
  try simp only [xP_nil, xP_pick, xP_func, xP_not, xP_add, xP_sub, xP_mul, xP_lss, xP_leq, xP_gtr, xP_geq, xP_max2, xP_min2, xR_eql, xR_neq, Nat.zero_add, Nat.add_zero, Nat.reduceAdd, List.getD_cons_zero, List.getD_cons_succ, xIf_true, xIf_false, FA_40_0, FA_40_1, FA_64_0, FA_64_1, FA_64_2, FA_67_0, FA_67_1, FA_67_2, FA_67_3, FA_75_0, FA_75_1, FA_75_2, FA_75_3, FA_82_0, FA_82_1, FA_82_2, FA_96_0, FA_96_1, FA_96_2, FA_123_0, FA_123_1, FA_123_2, LEN_34, LEN_38, LEN_51, LEN_56, LEN_60, LEN_65, LEN_83, LEN_88]
  refine xLoop_of (fun ls w' => ∃ (i : Nat) (o : Value) (F : List Nat), ls = [o, .int .i64 i] ∧ i ≤ hs.length ∧ Own w' 3 1 o ((hs.take i).map Hd.base).length (((hs.take i).map Hd.base).flatMap encI) F ∧ (∀ g ∈ F, w.heap.size ≤ g) ∧ Kept [] w w')
    (fun ls _ => match ls with | [_, .int _ i] => hs.length - i.toNat | _ => 0) ⟨0, .slice none 0 0, [], rfl, by omega, own_nil _ _ _, by simp, Kept.refl _ _⟩ ?_
  rintro _ _ w1 ⟨i, o, F, rfl, hi, ho, hF, hk1⟩
  simp only [xP_nil, xP_pick, xP_func, xP_not, xP_add, xP_sub, xP_mul, xP_lss, xP_leq, xP_gtr, xP_geq, xP_max2, xP_min2, xR_eql, xR_neq, Nat.zero_add, Nat.add_zero, Nat.reduceAdd, List.getD_cons_zero, List.getD_cons_succ, xIf_true, xIf_false, FA_40_0, FA_40_1, FA_64_0, FA_64_1, FA_64_2, FA_67_0, FA_67_1, FA_67_2, FA_67_3, FA_75_0, FA_75_1, FA_75_2, FA_75_3, FA_82_0, FA_82_1, FA_82_2, FA_96_0, FA_96_1, FA_96_2, FA_123_0, FA_123_1, FA_123_2, LEN_34, LEN_38, LEN_51, LEN_56, LEN_60, LEN_65, LEN_83, LEN_88, xIf_dec]
  refine ⟨fun hlt => ?_, fun hge => ?_⟩
  · have hlt : i < hs.length := by omega
    refine (rowHd.get h hk1 hlt).2 ?_
    have e2 : ((hs.take (i + 1)).map Hd.base) = (hs.take i).map Hd.base ++ [hs[i].base] := by
      rw [List.take_succ_eq_append_getElem hlt, List.map_append]; rfl
    refine newHd fun w2 hb2 hk2 => ?_
    simp only [xP_nil, xP_pick, xP_func, xP_not, xP_add, xP_sub, xP_mul, xP_lss, xP_leq, xP_gtr, xP_geq, xP_max2, xP_min2, xR_eql, xR_neq, Nat.zero_add, Nat.add_zero, Nat.reduceAdd, List.getD_cons_zero, List.getD_cons_succ, xIf_true, xIf_false, FA_40_0, FA_40_1, FA_64_0, FA_64_1, FA_64_2, FA_67_0, FA_67_1, FA_67_2, FA_67_3, FA_75_0, FA_75_1, FA_75_2, FA_75_3, FA_82_0, FA_82_1, FA_82_2, FA_96_0, FA_96_1, FA_96_2, FA_123_0, FA_123_1, FA_123_2, LEN_34, LEN_38, LEN_51, LEN_56, LEN_60, LEN_65, LEN_83, LEN_88]
    refine (ld1 ONE_3 (hb2.cell (o := 0))).2 ?_
    refine newInts (l := [hs[i].base]) rfl (by omega) (by omega) rfl fun nv w3 hn3 hk3 => ?_
    have hk13 := hk2.then hk3 (by simp)
    refine xE_appendSrc EL_56 (ho.kept hk13 (by simp)) (Src.ofSlT (l := [hs[i].base]) (e' := 3) (by kernel_rfl) hn3 encI_len (fun x u hu => by simp [encI] at hu; subst hu; rfl)) (by simp; omega) (by unfold maxLen; simp; omega) fun u2 w4 F4 ho4 hk4 hF4 _ => ?_
    rw [wrap64 (by omega) (by omega)]
    have hz := (hk1.then hk13 (by simp)).size
    refine ⟨⟨i + 1, u2, F4, rfl, hlt, ?_, fun g hg => (hF4 g hg).elim (hF g) (fun h => by omega), (hk1.then hk13 (by simp)).then hk4 (fun g hg => .inr (hF g hg))⟩, by omega⟩
    rw [e2, List.flatMap_append, List.length_append]
    exact ho4
  · obtain rfl : i = hs.length := by omega
    rw [List.take_length] at ho
    exact ⟨ho.slT encI_len (by omega), hk1⟩
def lg1 : Lg := ⟨[⟨5, 3, 1, 0, 0⟩], 5, 8⟩
def lg2 : Lg := ⟨[⟨5, 3, 1, 0, 0⟩, ⟨8, 2, 1, 0, 1⟩], 5, 10⟩
def lg3 : Lg := ⟨[⟨5, 3, 1, 0, 0⟩, ⟨8, 2, 1, 0, 1⟩, ⟨10, 4, 1, 1, 0⟩], 5, 14⟩
def lg4 : Lg := ⟨[⟨8, 2, 1, 0, 1⟩, ⟨10, 4, 1, 1, 0⟩], 9, 14⟩
theorem lg1_eq : (⟨[], 5, 5⟩ : Lg).add 3 1 0 0 = lg1 := by kernel_rfl
theorem lg2_eq : lg1.add 2 1 0 1 = lg2 := by kernel_rfl
theorem lg3_eq : lg2.add 4 1 1 0 = lg3 := by kernel_rfl
theorem lg4_eq : lg3.trim 9 = lg4 := by kernel_rfl
theorem plogRuns_ok {w : World} (hgl : Glob w) : Gives Tryd.prog 7 #[] w fun u w' => u = .bool true ∧ Kept [] w w' := by
  refine C_stavelaw17_PlogRuns ?_
  unfold S_stavelaw17_PlogRuns
  refine newLS (by omega) (by omega) fun p w1 h1 => ?_
  simp only [xP_ex0, xP_ex1]
  refine xJoin_of (fun ls w' => ls = [.bool false] ∧ w1 = w') ?_ ?_
  · refine (xR_pnil PT_46).2 ?_
    simp only [Option.isNone_some, xIf_false]
    refine (xR_neqN IFE).2 ?_
    exact ⟨rfl, trivial⟩
  rintro _ _ _ ⟨rfl, rfl⟩
  simp only [List.getD_cons_zero, xIf_false]
  have k0 := Lg.ok0 (n := 5) (by omega) (by omega)
  refine addLS h1 k0 (by simp) fun w2 h2 => ?_
  have k1 := Lg.add_ok k0 3 1 0 0
  rw [lg1_eq] at h2 k1
  simp only [xP_ex0, xP_ex1]
  refine addLS h2 k1 (by simp [lg1]) fun w3 h3 => ?_
  have k2 := Lg.add_ok k1 2 1 0 1
  rw [lg2_eq] at h3 k2
  simp only [xP_ex0, xP_ex1]
  refine addLS h3 k2 (by simp [lg2]) fun w4 h4 => ?_
  have k3 := Lg.add_ok k2 4 1 1 0
  rw [lg3_eq] at h4 k3
  simp only [xP_ex0, xP_ex1]
  have e9 : lg3.from 9 = [⟨8, 2, 1, 0, 1⟩, ⟨10, 4, 1, 1, 0⟩] := by kernel_rfl
  obtain ⟨F4, hL4, hF4, hk04⟩ := h4
  refine fromLS ⟨F4, hL4, hF4, hk04⟩ k3 (by simp [lg3]) fun fv w5 hf5 hk5 hfr5 => ?_
  simp only [xP_ex0, xP_ex1]
  refine xE_call CF_26 (ptrim_ok (o := 9) (hL4.kept0 hk5) k3 (by simp [lg3])) ?_
  rintro _ w6 ⟨F6, rfl, hL6, hk6, hF6⟩
  have hz4 := hk04.size
  have hz5 := hk5.size
  have hlt4 := hL4.lt
  have hf6 := hf5.kept hk6 (fun b o n c he hm => by have := hfr5 b o n c he; have := hlt4 b hm; omega)
  have h6 : PS w w6 p (lg3.trim 9) := ⟨F6, hL6, fun g hg => (hF6 g hg).elim (hF4 g) (fun h => by omega), (hk04.then hk5 (by simp)).then hk6 (fun g hg => .inr (hF4 g hg))⟩
  have k4 := Lg.trim_ok k3 9
  rw [lg4_eq] at h6 k4
  rw [e9] at hf6
  refine fromLS h6 k4 (by simp [lg4]) fun gv w7 _ hk7 _ => ?_
  have h7 := h6.next hk7
  simp only [xP_ex0, xP_ex1]
  simp only [show lg3.trimK 9 = 0 from by kernel_rfl, show lg3.fromK 9 = 0 from by kernel_rfl, show lg4.fromK 8 = 13 from by kernel_rfl, show (⟨[], 5, 5⟩ : Lg).addK 3 1 0 0 = 0 from by kernel_rfl, show lg1.addK 2 1 0 1 = 0 from by kernel_rfl, show lg2.addK 4 1 1 0 = 0 from by kernel_rfl]
  simp only [if_true, xR_eql, show decide ((5 : Int) = 5) = true from rfl, show decide (lg1.next = 8) = true from by kernel_rfl, show decide (lg2.next = 10) = true from by kernel_rfl, xIf_true, decide_true]
  refine optV_eql.2 ?_
  simp only [erOp, if_true, Option.isNone_none, xIf_true]
  refine xE_call CF_28 (bases_ok (hf6.kept0 hk7) (by simp)) ?_
  rintro bv w8 ⟨hb8, hk8⟩
  refine newInts (l := [8, 10]) rfl (by omega) (by omega) rfl fun cv w9 hc9 hk9 => ?_
  refine xE_call CF_27 (same_ok (hb8.kept0 hk9) hc9 (by simp)) ?_
  rintro _ w10 ⟨rfl, hk10⟩
  have h10 := ((h7.next hk8).next hk9).next hk10
  simp only [List.map_cons, List.map_nil, decide_true, xIf_true]
  refine optV_eql.2 ?_
  simp only [Option.isNone_none, xIf_true]
  refine startLS h10 ?_
  simp only [xR_eql, show decide (lg4.start = 9) = true from by kernel_rfl, xIf_true]
  refine lenLS h10 fun w11 hk11 => ?_
  simp only [xR_eql, show decide (((lg4.hs.length : Nat) : Int) = 2) = true from by kernel_rfl, xIf_true]
  have h11 := h10.next hk11
  have := h11.k0
  refine kindOp (op := opPF) (k := 13) (hgl.kept0 h11.k0) fun w12 hk12 => ?_
  simp only [xR_eql, decide_true]
  exact ⟨rfl, (h11.next hk12).k0⟩
theorem pRunsG {w w' : World} (hg : Glob w) (hk : Kept [] w w') : xE Tryd.prog (sCall 7 #[]) w' fun v w'' => Ret (fun u w' => u = .bool true ∧ Kept [] w w') (.returned v) w'' := by
  refine xE_call CF_7 (plogRuns_ok (hg.kept0 hk)) ?_
  rintro _ w2 ⟨rfl, hk2⟩
  exact ⟨rfl, hk.then hk2 (by simp)⟩
end Go.Proofs.YtjajjblppogfoaaDoor
