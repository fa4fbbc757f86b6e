import Derived.Test.YtjajjblppogfoaaDoorXpPlog4
namespace Go.Proofs.YtjajjblppogfoaaDoor
set_option linter.unusedSimpArgs false
set_option linter.unusedVariables false
set_option maxRecDepth 100000
attribute [local irreducible] Go.X.xE
open Go Go.X Go.RowKit

/-! ## PlogRefuses -/
theorem xP_negI {P : Program} {K : Value → Prop} {k : IntKind} {a : Int} : xP P (sUn .neg (.int k a)) K ↔ K (.int k (k.wrap (-a))) := xP_of fun w => by simp [sUn, Op.unary, Op.intArith]
def encO (e : Option Er) : List Value := [optV e]
theorem optV_one (e : Option Er) : (optV e).oneCell' = true := by
  cases e with
  | none => rfl
  | some e => exact erV_one e
theorem rowE : RowB Tryd.prog 60 23 1 encO optV := RowB.one SL_60 SZ_23 ONE_23
theorem newErrs {l : List (Option Er)} {n : Nat} {parts : Array (Nat × Value)} {w : World} {K : Value → World → Prop} (hn : l.length = n) (hpos : 0 < n) (hs : n ≤ 1000) (hp : parts.toList = ((l.map optV).zipIdx).map fun p => (p.2, p.1))
    (k : ∀ u w', SlT w' encO u l → Kept [] w w' → K u w') : xE Tryd.prog (sBuildSlice 60 n parts) w K := by
  have hone : ∀ e : Option Er, (optV e).cells = #[optV e] := fun e => cells_one (optV_one e)
  refine xE_buildSlice EL_60 (l.map optV) hp (by simp [hn]) (by intro v hv; obtain ⟨y, -, rfl⟩ := List.mem_map.1 hv; rw [hone]; rfl) hpos (by omega) fun w' hb hk hz => ?_
  have hcells : (l.map optV).flatMap (fun v => v.cells.toList) = l.flatMap encO := by
    rw [List.flatMap_map]
    congr 1
    funext e
    rw [hone]; rfl
  rw [hcells] at hb
  have := slT_blk hb
  rw [hn] at this
  exact k _ _ this hk
theorem add_bad {L : Lg} {c t s e : Int} (h : c < 1 ∨ 8 < c ∨ ¬ (0 ≤ t ∧ t ≤ 1125899906842624) ∨ s < 0 ∨ e < 0) : L.addK c t s e = 1 ∧ L.add c t s e = L := by
  have hb : addBad c t s e = true := decide_eq_true h
  have h1 : L.addK c t s e = 1 := by unfold Lg.addK; rw [hb]; rfl
  exact ⟨h1, by unfold Lg.add; rw [h1]; rfl⟩
theorem addBadS {L : Lg} {p : Nat} {c t s e : Int} {w0 w : World} {K : Value → World → Prop} (h : PS w0 w p L) (hok : L.Ok) (hlen : L.hs.length ≤ 1000) (hb : c < 1 ∨ 8 < c ∨ ¬ (0 ≤ t ∧ t ≤ 1125899906842624) ∨ s < 0 ∨ e < 0) (k : ∀ w', PS w0 w' p L → K (.tuple #[.int .i64 0, optV (pErr opPA 1)]) w') :
    xE Tryd.prog (sCall 24 #[.pointer (some ⟨p, 0, none⟩), .int .i64 c, .int .i64 t, .int .i64 s, .int .i64 e]) w K := by
  obtain ⟨h1, h2⟩ := add_bad (L := L) hb
  refine addLS h hok hlen fun w' hp => ?_
  rw [h2] at hp
  rw [h1]
  exact k w' hp
theorem trimBadS {L : Lg} {p : Nat} {o : Int} {w0 w : World} {K : Value → World → Prop} (h : PS w0 w p L) (hok : L.Ok) (hlen : L.hs.length ≤ 1000) (hb : ¬ (0 ≤ o ∧ o ≤ L.next)) (k : ∀ w', PS w0 w' p L → K (optV (pErr opPT 13)) w') :
    xE Tryd.prog (sCall 26 #[.pointer (some ⟨p, 0, none⟩), .int .i64 o]) w K := by
  have hk1 : L.trimK o = 13 := if_neg hb
  have ht : L.trim o = L := if_neg (fun hh => by rw [hk1] at hh; exact absurd hh.1 (by decide))
  refine trimLS h hok hlen fun w' hp => ?_
  rw [ht] at hp
  rw [hk1]
  exact k w' hp
theorem fromBadS {L : Lg} {p : Nat} {o : Int} {w0 w : World} {K : Value → World → Prop} (h : PS w0 w p L) (hok : L.Ok) (hlen : L.hs.length ≤ 1000) (hb : o < L.start ∨ L.next < o) (k : ∀ fv w', PS w0 w' p L → K (.tuple #[fv, optV (pErr opPF 13)]) w') :
    xE Tryd.prog (sCall 25 #[.pointer (some ⟨p, 0, none⟩), .int .i64 o]) w K := by
  have hk1 : L.fromK o = 13 := if_pos hb
  refine fromLS h hok hlen fun fv w' _ hk _ => ?_
  rw [hk1]
  exact k fv w' (h.next hk)
theorem prefuses_ok {n o : Int} {l : List Int} {v : Value} {w : World} (hgl : Glob w) (hl : SlT w encI v l) :
    Gives Tryd.prog 9 #[v, .int .i64 n, .int .i64 o] w fun u w' => u = .bool true ∧ Kept [] w w' := by
  refine C_stavelaw17_PlogRefuses ?_
  unfold S_stavelaw17_PlogRefuses
  obtain ⟨la, lc, rfl, hlc, hlr⟩ := hl
  have hl : SlT w encI (.slice la l.length lc) l := ⟨la, lc, rfl, hlc, hlr⟩
  refine newLS (by omega) (by omega) fun p w1 h1 => ?_
  have k1 := Lg.ok0 (n := 50) (by omega) (by omega)
  simp only [xP_ex0, xP_ex1]
  refine xJoin_of (fun ls w' => ls = [.bool false] ∧ w1 = w') ?_ ?_
  · refine (xR_pnil PT_46).2 ?_
    simp only [Option.isNone_some, xIf_false]
    refine (xR_neqN IFE).2 ?_
    exact ⟨rfl, trivial⟩
  rintro _ _ _ ⟨rfl, rfl⟩
  simp only [List.getD_cons_zero, xIf_false]
  refine xLoop_of (fun ls w' => ∃ (i : Nat) (L : Lg), ls = [.int .i64 i] ∧ i ≤ l.length ∧ i ≤ 9 ∧ L.Ok ∧ L.hs.length ≤ i ∧ L.next ≤ 50 + 8 * (i : Int) ∧ PS w w' p L)
    (fun ls _ => match ls with | [.int _ i] => 9 - i.toNat | _ => 0) ⟨0, _, rfl, by omega, by omega, k1, by simp, by simp, h1⟩ ?_
  rintro _ _ w2 ⟨i, L, rfl, hi, hi9, hok, hlen, hnext, hps⟩
  have hk2 := hps.k0
  refine xJoin_of (fun ls w' => ls = [.bool (decide (i < l.length ∧ i < 9))] ∧ w2 = w') ?_ ?_
  · simp only [xP_nil, xP_pick, xP_func, xP_not, xP_add, xP_sub, xP_mul, xP_lss, xP_leq, xP_gtr, xP_geq, xP_max2, xP_min2, xR_eql, xR_neq, Nat.zero_add, Nat.add_zero, Nat.reduceAdd, List.getD_cons_zero, List.getD_cons_succ, xIf_true, xIf_false, FA_40_0, FA_40_1, FA_64_0, FA_64_1, FA_64_2, FA_67_0, FA_67_1, FA_67_2, FA_67_3, FA_75_0, FA_75_1, FA_75_2, FA_75_3, FA_82_0, FA_82_1, FA_82_2, FA_96_0, FA_96_1, FA_96_2, FA_123_0, FA_123_1, FA_123_2, LEN_34, LEN_38, LEN_51, LEN_56, LEN_60, LEN_65, LEN_83, LEN_88, xIf_dec]
    refine ⟨fun h1 => ⟨by rw [decide_eq_decide.2 (show ((i : Int) < 9) ↔ (i < l.length ∧ i < 9) by omega)], trivial⟩, fun h1 => ⟨by rw [decide_eq_false (show ¬ (i < l.length ∧ i < 9) by omega)], trivial⟩⟩
  rintro _ _ _ ⟨rfl, rfl⟩
  simp only [List.getD_cons_zero, xIf_dec]
  refine ⟨fun hgo => ?_, fun hstop => ?_⟩
  · refine (rowInt.get hl hk2 hgo.1).2 ?_
    refine xE_call CF_21 (within_ok (by omega) (by omega) (by omega)) ?_
    rintro _ _ ⟨rfl, rfl⟩
    obtain ⟨wn1, wn2⟩ := within_bd (n := l[i]'hgo.1) (lo := 1) (hi := 8) (by omega)
    generalize within (l[i]'hgo.1) 1 8 = m at *
    refine addLS hps hok (by omega) fun w3 h3 => ?_
    have hok3 := Lg.add_ok hok m i i 0
    have hlen3 := Lg.add_len L m i i 0
    have hn3 : (L.add m i i 0).next ≤ L.next + 8 := by
      unfold Lg.add
      split
      · show L.next + m ≤ _; omega
      · omega
    simp only [xP_nil, xP_pick, xP_func, xP_not, xP_add, xP_sub, xP_mul, xP_lss, xP_leq, xP_gtr, xP_geq, xP_max2, xP_min2, xR_eql, xR_neq, Nat.zero_add, Nat.add_zero, Nat.reduceAdd, List.getD_cons_zero, List.getD_cons_succ, xIf_true, xIf_false, FA_40_0, FA_40_1, FA_64_0, FA_64_1, FA_64_2, FA_67_0, FA_67_1, FA_67_2, FA_67_3, FA_75_0, FA_75_1, FA_75_2, FA_75_3, FA_82_0, FA_82_1, FA_82_2, FA_96_0, FA_96_1, FA_96_2, FA_123_0, FA_123_1, FA_123_2, LEN_34, LEN_38, LEN_51, LEN_56, LEN_60, LEN_65, LEN_83, LEN_88]
    rw [wrap64 (by omega) (by omega)]
    exact ⟨⟨i + 1, _, rfl, by omega, by omega, hok3, by omega, by omega, h3⟩, by omega⟩
  clear hstop
  have hnext : L.next ≤ 122 := by omega
  have hs0 := hok.s0; have hsn := hok.sn; have hnm := hok.nm
  have hl9 : L.hs.length ≤ 1000 := by omega
  refine startLS hps ?_
  refine nextLS hps ?_
  refine lenLS hps fun w3 hk3 => ?_
  have h3 := hps.next hk3
  refine xE_call CF_21 (within_ok (by omega) (by omega) (by omega)) ?_
  rintro _ _ ⟨rfl, rfl⟩
  obtain ⟨wk1, wk2⟩ := within_bd (n := n) (lo := 1) (hi := 9) (by omega)
  generalize within n 1 9 = k at *
  simp only [xP_nil, xP_pick, xP_func, xP_not, xP_add, xP_sub, xP_mul, xP_lss, xP_leq, xP_gtr, xP_geq, xP_max2, xP_min2, xR_eql, xR_neq, Nat.zero_add, Nat.add_zero, Nat.reduceAdd, List.getD_cons_zero, List.getD_cons_succ, xIf_true, xIf_false, FA_40_0, FA_40_1, FA_64_0, FA_64_1, FA_64_2, FA_67_0, FA_67_1, FA_67_2, FA_67_3, FA_75_0, FA_75_1, FA_75_2, FA_75_3, FA_82_0, FA_82_1, FA_82_2, FA_96_0, FA_96_1, FA_96_2, FA_123_0, FA_123_1, FA_123_2, LEN_34, LEN_38, LEN_51, LEN_56, LEN_60, LEN_65, LEN_83, LEN_88, xP_negI]
  rw [wrap64 (x := 8 + k) (by omega) (by omega), wrap64 (x := -k) (by omega) (by omega), wrap64 (x := 1125899906842624 + k) (by omega) (by omega), wrap64 (x := L.start - k) (by omega) (by omega), wrap64 (x := L.next + k) (by omega) (by omega)]
  refine addBadS h3 hok hl9 (by omega) fun w4 h4 => ?_
  simp only [xP_ex0, xP_ex1]
  refine addBadS h4 hok hl9 (by omega) fun w5 h5 => ?_
  simp only [xP_ex0, xP_ex1]
  refine addBadS h5 hok hl9 (by omega) fun w6 h6 => ?_
  simp only [xP_ex0, xP_ex1]
  refine addBadS h6 hok hl9 (by omega) fun w7 h7 => ?_
  simp only [xP_ex0, xP_ex1]
  refine addBadS h7 hok hl9 (by omega) fun w8 h8 => ?_
  simp only [xP_ex0, xP_ex1]
  refine addBadS h8 hok hl9 (by omega) fun w9 h9 => ?_
  simp only [xP_ex0, xP_ex1]
  refine fromBadS h9 hok hl9 (by omega) fun _ w10 h10 => ?_
  simp only [xP_ex0, xP_ex1]
  refine fromBadS h10 hok hl9 (by omega) fun _ w11 h11 => ?_
  simp only [xP_ex0, xP_ex1]
  refine trimBadS h11 hok hl9 (by omega) fun w12 h12 => ?_
  refine trimBadS h12 hok hl9 (by omega) fun w13 h13 => ?_
  refine newNegS (by omega) (by omega) fun w14 hk14 => ?_
  have h14 := h13.next hk14
  simp only [xP_ex0, xP_ex1]
  refine newErrs (l := [pErr opPA 1, pErr opPA 1, pErr opPA 1, pErr opPA 1, pErr opPA 1, pErr opPA 1, pErr opPN 1]) rfl (by omega) (by omega) rfl fun ev w15 he15 hk15 => ?_
  have h15 := h14.next hk15
  obtain ⟨ea, ec, rfl, r1, r2⟩ := he15
  have he15 : SlT w15 encO (.slice ea 7 ec) [pErr opPA 1, pErr opPA 1, pErr opPA 1, pErr opPA 1, pErr opPA 1, pErr opPA 1, pErr opPN 1] := ⟨ea, ec, rfl, r1, r2⟩
  have hall : ∀ e ∈ [pErr opPA 1, pErr opPA 1, pErr opPA 1, pErr opPA 1, pErr opPA 1, pErr opPA 1, pErr opPN 1], optKind e = 1 ∧ ∀ x, e = some x → Er.plain x := by
    intro e he
    simp at he
    rcases he with rfl | rfl <;> exact ⟨rfl, fun x hx => by cases hx; trivial⟩
  have hl7 : [pErr opPA 1, pErr opPA 1, pErr opPA 1, pErr opPA 1, pErr opPA 1, pErr opPA 1, pErr opPN 1].length = 7 := rfl
  generalize [pErr opPA 1, pErr opPA 1, pErr opPA 1, pErr opPA 1, pErr opPA 1, pErr opPA 1, pErr opPN 1] = es at *
  rw [hl7]
  try simp only [xP_nil, xP_pick, xP_func, xP_not, xP_add, xP_sub, xP_mul, xP_lss, xP_leq, xP_gtr, xP_geq, xP_max2, xP_min2, xR_eql, xR_neq, Nat.zero_add, Nat.add_zero, Nat.reduceAdd, List.getD_cons_zero, List.getD_cons_succ, xIf_true, xIf_false, FA_40_0, FA_40_1, FA_64_0, FA_64_1, FA_64_2, FA_67_0, FA_67_1, FA_67_2, FA_67_3, FA_75_0, FA_75_1, FA_75_2, FA_75_3, FA_82_0, FA_82_1, FA_82_2, FA_96_0, FA_96_1, FA_96_2, FA_123_0, FA_123_1, FA_123_2, LEN_34, LEN_38, LEN_51, LEN_56, LEN_60, LEN_65, LEN_83, LEN_88]
  refine xLoop_of (fun ls w' => ∃ i : Nat, ls = [.int .i64 i] ∧ i ≤ 7 ∧ Kept [] w15 w') (fun ls _ => match ls with | [.int _ i] => 7 - i.toNat | _ => 0) ⟨0, rfl, by omega, Kept.refl _ _⟩ ?_
  rintro _ _ w16 ⟨i, rfl, hi7, hk16⟩
  have h16 := h15.next hk16
  simp only [xP_nil, xP_pick, xP_func, xP_not, xP_add, xP_sub, xP_mul, xP_lss, xP_leq, xP_gtr, xP_geq, xP_max2, xP_min2, xR_eql, xR_neq, Nat.zero_add, Nat.add_zero, Nat.reduceAdd, List.getD_cons_zero, List.getD_cons_succ, xIf_true, xIf_false, FA_40_0, FA_40_1, FA_64_0, FA_64_1, FA_64_2, FA_67_0, FA_67_1, FA_67_2, FA_67_3, FA_75_0, FA_75_1, FA_75_2, FA_75_3, FA_82_0, FA_82_1, FA_82_2, FA_96_0, FA_96_1, FA_96_2, FA_123_0, FA_123_1, FA_123_2, LEN_34, LEN_38, LEN_51, LEN_56, LEN_60, LEN_65, LEN_83, LEN_88, xIf_dec]
  refine ⟨fun hlt => ?_, fun hge => ?_⟩
  · have hi : i < es.length := by omega
    refine (rowE.get he15 hk16 hi).2 ?_
    obtain ⟨hk1, hpl⟩ := hall _ (List.getElem_mem hi)
    refine kindS hpl (hgl.kept0 h16.k0) fun w17 hk17 => ?_
    rw [hk1]
    simp only [xR_neq, ne_eq, not_true_eq_false, decide_false, xIf_false]
    rw [wrap64 (by omega) (by omega)]
    exact ⟨⟨i + 1, rfl, by omega, hk16.then hk17 (by simp)⟩, by omega⟩
  clear hall hl7 he15 r1 r2
  refine newErrs (l := [pErr opPF 13, pErr opPF 13, pErr opPT 13, pErr opPT 13]) rfl (by omega) (by omega) rfl fun ev w17 he17 hk17 => ?_
  have h17 := h16.next hk17
  obtain ⟨ea, ec, rfl, r1, r2⟩ := he17
  have he17 : SlT w17 encO (.slice ea 4 ec) [pErr opPF 13, pErr opPF 13, pErr opPT 13, pErr opPT 13] := ⟨ea, ec, rfl, r1, r2⟩
  have hall : ∀ e ∈ [pErr opPF 13, pErr opPF 13, pErr opPT 13, pErr opPT 13], optKind e = 13 ∧ ∀ x, e = some x → Er.plain x := by
    intro e he
    simp at he
    rcases he with rfl | rfl <;> exact ⟨rfl, fun x hx => by cases hx; trivial⟩
  have hl4 : [pErr opPF 13, pErr opPF 13, pErr opPT 13, pErr opPT 13].length = 4 := rfl
  generalize [pErr opPF 13, pErr opPF 13, pErr opPT 13, pErr opPT 13] = fs at *
  rw [hl4]
  try simp only [xP_nil, xP_pick, xP_func, xP_not, xP_add, xP_sub, xP_mul, xP_lss, xP_leq, xP_gtr, xP_geq, xP_max2, xP_min2, xR_eql, xR_neq, Nat.zero_add, Nat.add_zero, Nat.reduceAdd, List.getD_cons_zero, List.getD_cons_succ, xIf_true, xIf_false, FA_40_0, FA_40_1, FA_64_0, FA_64_1, FA_64_2, FA_67_0, FA_67_1, FA_67_2, FA_67_3, FA_75_0, FA_75_1, FA_75_2, FA_75_3, FA_82_0, FA_82_1, FA_82_2, FA_96_0, FA_96_1, FA_96_2, FA_123_0, FA_123_1, FA_123_2, LEN_34, LEN_38, LEN_51, LEN_56, LEN_60, LEN_65, LEN_83, LEN_88]
  refine xLoop_of (fun ls w' => ∃ i : Nat, ls = [.int .i64 i] ∧ i ≤ 4 ∧ Kept [] w17 w') (fun ls _ => match ls with | [.int _ i] => 4 - i.toNat | _ => 0) ⟨0, rfl, by omega, Kept.refl _ _⟩ ?_
  rintro _ _ w18 ⟨j, rfl, hj4, hk18⟩
  have h18 := h17.next hk18
  simp only [xP_nil, xP_pick, xP_func, xP_not, xP_add, xP_sub, xP_mul, xP_lss, xP_leq, xP_gtr, xP_geq, xP_max2, xP_min2, xR_eql, xR_neq, Nat.zero_add, Nat.add_zero, Nat.reduceAdd, List.getD_cons_zero, List.getD_cons_succ, xIf_true, xIf_false, FA_40_0, FA_40_1, FA_64_0, FA_64_1, FA_64_2, FA_67_0, FA_67_1, FA_67_2, FA_67_3, FA_75_0, FA_75_1, FA_75_2, FA_75_3, FA_82_0, FA_82_1, FA_82_2, FA_96_0, FA_96_1, FA_96_2, FA_123_0, FA_123_1, FA_123_2, LEN_34, LEN_38, LEN_51, LEN_56, LEN_60, LEN_65, LEN_83, LEN_88, xIf_dec]
  refine ⟨fun hlt => ?_, fun hge => ?_⟩
  · have hi : j < fs.length := by omega
    refine (rowE.get he17 hk18 hi).2 ?_
    obtain ⟨hk1, hpl⟩ := hall _ (List.getElem_mem hi)
    refine kindS hpl (hgl.kept0 h18.k0) fun w19 hk19 => ?_
    rw [hk1]
    simp only [xR_neq, ne_eq, not_true_eq_false, decide_false, xIf_false]
    rw [wrap64 (by omega) (by omega)]
    exact ⟨⟨j + 1, rfl, by omega, hk18.then hk19 (by simp)⟩, by omega⟩
  refine xE_call CF_21 (within_ok (by omega) (by omega) (by omega)) ?_
  rintro _ _ ⟨rfl, rfl⟩
  obtain ⟨wo1, wo2⟩ := within_bd (n := o) (lo := 0) (hi := L.start) (by omega)
  generalize within o 0 L.start = a at *
  refine trimLS h18 hok hl9 fun w19 h19 => ?_
  have ht1 : L.trimK a = 0 := if_pos (by omega)
  have ht2 : L.trim a = L := if_neg (fun hh => by omega)
  rw [ht2] at h19
  rw [ht1]
  refine optV_eql.2 ?_
  simp only [erOp, if_true, Option.isNone_none, xIf_true]
  refine startLS h19 ?_
  simp only [xR_eql, decide_true, xIf_true]
  refine nextLS h19 ?_
  simp only [xR_eql, decide_true, xIf_true]
  refine lenLS h19 fun w20 hk20 => ?_
  simp only [xR_eql, decide_true, xIf_true]
  exact pRunsG hgl (h19.next hk20).k0
end Go.Proofs.YtjajjblppogfoaaDoor
