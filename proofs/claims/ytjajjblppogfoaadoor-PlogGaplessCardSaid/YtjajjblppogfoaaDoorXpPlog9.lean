import Derived.Test.YtjajjblppogfoaaDoorXpPlog7
import Derived.Test.YtjajjblppogfoaaDoorXB
namespace Go.Proofs.YtjajjblppogfoaaDoor
set_option linter.unusedSimpArgs false
set_option linter.unusedVariables false
set_option maxRecDepth 100000
attribute [local irreducible] Go.X.xE
open Go Go.X Go.RowKit

/-! ## Heads, compared -/
theorem FLH : flatB Tryd.prog 64 [(0, false), (1, false), (2, false), (3, false), (4, false)] := ⟨by kernel_rfl, by kernel_rfl, by kernel_rfl, by kernel_rfl⟩
theorem cellsH (p : Hd) : ∀ s ∈ [(0, false), (1, false), (2, false), (3, false), (4, false)], CellOK (encH p).toArray s := by
  intro s hs
  simp at hs
  rcases hs with rfl | rfl | rfl | rfl | rfl
  · exact ⟨p.base, rfl⟩
  · exact ⟨p.count, rfl⟩
  · exact ⟨p.time, rfl⟩
  · exact ⟨p.stripe, rfl⟩
  · exact ⟨p.entry, rfl⟩
theorem sameH_ok {xs ys : List Hd} {a b : Value} {w : World} (ha : SlT w encH a xs) (hb : SlT w encH b ys) (hl : xs.length ≤ 9223372036854775806) :
    Gives Tryd.prog 35 #[a, b] w fun u w' => u = .bool (decide (xs = ys)) ∧ Kept [] w w' := by
  refine C_stavebook_Same_api_Head ?_
  refine xSame rowHd ha hb hl (fun x y w' K => ?_) (fun w' hk => ⟨rfl, hk⟩)
  refine (xR_neqF FLH (fun s hs => ⟨cellsH x s hs, cellsH y s hs⟩)).trans ?_
  have e : (!([(0, false), (1, false), (2, false), (3, false), (4, false)].all fun s => cellEq (encH x).toArray[s.1]? (encH y).toArray[s.1]?)) = !decide (x = y) := by
    obtain ⟨x1, x2, x3, x4, x5⟩ := x
    obtain ⟨y1, y2, y3, y4, y5⟩ := y
    simp [encH, cellEq, Hd.mk.injEq]
  rw [e]

/-! ## A log, and blocks beside it -/
/-- A log that was made after w0; none of its blocks is of X. -/
def PX (w0 w : World) (p : Nat) (L : Lg) (X : List Nat) : Prop := ∃ F, LogI w p L F ∧ (∀ g ∈ F, w0.heap.size ≤ g) ∧ (∀ g ∈ F, g ∉ X) ∧ (∀ g ∈ X, g < w.heap.size) ∧ Kept [] w0 w
theorem PX.ps {w0 w : World} {p : Nat} {L : Lg} {X : List Nat} (h : PX w0 w p L X) : PS w0 w p L := by
  obtain ⟨F, h1, h2, _, _, h5⟩ := h
  exact ⟨F, h1, h2, h5⟩
theorem PX.lt {w0 w : World} {p : Nat} {L : Lg} {X : List Nat} (h : PX w0 w p L X) : ∀ g ∈ X, g < w.heap.size := by
  obtain ⟨F, _, _, _, h4, _⟩ := h; exact h4
theorem PX.k0 {w0 w : World} {p : Nat} {L : Lg} {X : List Nat} (h : PX w0 w p L X) : Kept [] w0 w := h.ps.k0
theorem PX.next {w0 w w' : World} {p : Nat} {L : Lg} {X : List Nat} (h : PX w0 w p L X) (hk : Kept [] w w') : PX w0 w' p L X := by
  obtain ⟨F, h1, h2, h3, h4, h5⟩ := h
  exact ⟨F, h1.kept0 hk, h2, h3, fun g hg => Nat.lt_of_lt_of_le (h4 g hg) hk.size, h5.then hk (by simp)⟩
/-- A change of blocks beside the log. -/
theorem PX.own {w0 w w' : World} {p : Nat} {L : Lg} {X X' M : List Nat} (h : PX w0 w p L X) (hk : Kept M w w') (hM : ∀ g ∈ M, g ∈ X) (hM0 : ∀ g ∈ M, w0.heap.size ≤ g) (hX : ∀ g ∈ X', (g ∈ X ∨ w.heap.size ≤ g) ∧ g < w'.heap.size) : PX w0 w' p L X' := by
  obtain ⟨F, h1, h2, h3, h4, h5⟩ := h
  have hlt := h1.lt
  exact ⟨F, h1.kept hk (fun g hg hm => h3 g hg (hM g hm)), h2, fun g hg hx => (hX g hx).1.elim (h3 g hg) (fun hh => by have := hlt g hg; omega), fun g hg => (hX g hg).2, h5.then hk (fun g hg => .inr (hM0 g hg))⟩
theorem PX.step {w0 w w' : World} {p : Nat} {L L' : Lg} {X F F' : List Nat} (h1 : LogI w p L F) (h2 : ∀ g ∈ F, w0.heap.size ≤ g) (h3 : ∀ g ∈ F, g ∉ X) (h4 : ∀ g ∈ X, g < w.heap.size) (h5 : Kept [] w0 w)
    (hL : LogI w' p L' F') (hk : Kept F w w') (hF : ∀ g ∈ F', g ∈ F ∨ w.heap.size ≤ g) : PX w0 w' p L' X :=
  ⟨F', hL, fun g hg => (hF g hg).elim (h2 g) (fun h => by have := h5.size; omega), fun g hg hx => (hF g hg).elim (fun h => h3 g h hx) (fun h => by have := h4 g hx; omega), fun g hg => Nat.lt_of_lt_of_le (h4 g hg) hk.size, h5.then hk (fun g hg => .inr (h2 g hg))⟩
theorem addX {L : Lg} {p : Nat} {c t s e : Int} {w0 w : World} {X : List Nat} {K : Value → World → Prop} (h : PX w0 w p L X) (hok : L.Ok) (hlen : L.hs.length ≤ 1000) (k : ∀ w' M, PX w0 w' p (L.add c t s e) X → Kept M w w' → (∀ g ∈ M, g ∉ X) → K (.tuple #[.int .i64 (if L.addK c t s e = 0 then L.next else 0), optV (erOp opPA (L.addK c t s e))]) w') :
    xE Tryd.prog (sCall 24 #[.pointer (some ⟨p, 0, none⟩), .int .i64 c, .int .i64 t, .int .i64 s, .int .i64 e]) w K := by
  obtain ⟨F, h1, h2, h3, h4, h5⟩ := h
  refine xE_call CF_24 (padd_ok h1 hok (by omega)) ?_
  rintro _ w' ⟨F', rfl, hL, hk, hF⟩
  exact k w' F (PX.step h1 h2 h3 h4 h5 hL hk hF) hk h3
theorem trimX {L : Lg} {p : Nat} {o : Int} {w0 w : World} {X : List Nat} {K : Value → World → Prop} (h : PX w0 w p L X) (hok : L.Ok) (hlen : L.hs.length ≤ 1000) (k : ∀ w' M, PX w0 w' p (L.trim o) X → Kept M w w' → (∀ g ∈ M, g ∉ X) → K (optV (erOp opPT (L.trimK o))) w') :
    xE Tryd.prog (sCall 26 #[.pointer (some ⟨p, 0, none⟩), .int .i64 o]) w K := by
  obtain ⟨F, h1, h2, h3, h4, h5⟩ := h
  refine xE_call CF_26 (ptrim_ok h1 hok (by omega)) ?_
  rintro _ w' ⟨F', rfl, hL, hk, hF⟩
  exact k w' F (PX.step h1 h2 h3 h4 h5 hL hk hF) hk h3
theorem keepX {L : Lg} {p : Nat} {m : Int} {w0 w : World} {X : List Nat} {K : Value → World → Prop} (h : PX w0 w p L X) (hok : L.Ok) (hlen : L.hs.length ≤ 1000) (k : ∀ w' M, PX w0 w' p (L.dropN (L.keepN m)) X → Kept M w w' → (∀ g ∈ M, g ∉ X) → K (.int .i64 (L.keepN m)) w') :
    xE Tryd.prog (sCall 33 #[.pointer (some ⟨p, 0, none⟩), .int .i64 m]) w K := by
  obtain ⟨F, h1, h2, h3, h4, h5⟩ := h
  refine xE_call CF_33 (pkeep_ok h1 hok (by omega)) ?_
  rintro _ w' ⟨F', rfl, hL, hk, hF⟩
  exact k w' F (PX.step h1 h2 h3 h4 h5 hL hk hF) hk h3
theorem olderX {L : Lg} {p : Nat} {m : Int} {w0 w : World} {X : List Nat} {K : Value → World → Prop} (h : PX w0 w p L X) (hok : L.Ok) (hlen : L.hs.length ≤ 1000) (k : ∀ w' M, PX w0 w' p (L.dropN (L.olderN m)) X → Kept M w w' → (∀ g ∈ M, g ∉ X) → K (.int .i64 (L.olderN m)) w') :
    xE Tryd.prog (sCall 34 #[.pointer (some ⟨p, 0, none⟩), .int .i64 m]) w K := by
  obtain ⟨F, h1, h2, h3, h4, h5⟩ := h
  refine xE_call CF_34 (polder_ok h1 hok (by omega)) ?_
  rintro _ w' ⟨F', rfl, hL, hk, hF⟩
  exact k w' F (PX.step h1 h2 h3 h4 h5 hL hk hF) hk h3
/-- A list of heads whose block, if it has one, is of X. -/
def HX (w : World) (v : Value) (l : List Hd) (X : List Nat) : Prop := SlT w encH v l ∧ ∀ a n c, v = .slice a n c → a = none ∨ ∃ b o, a = some ⟨b, o, none⟩ ∧ b ∈ X
theorem HX.kept {w w' : World} {v : Value} {l : List Hd} {X M : List Nat} (h : HX w v l X) (hk : Kept M w w') (hd : ∀ g ∈ M, g ∉ X) : HX w' v l X :=
  ⟨h.1.kept hk (fun b o n c e hm => by
    rcases h.2 _ _ _ e with h0 | ⟨b', o', h0, h1⟩
    · cases h0
    · cases h0; exact hd b hm h1), h.2⟩
theorem HX.kept0 {w w' : World} {v : Value} {l : List Hd} {X : List Nat} (h : HX w v l X) (hk : Kept [] w w') : HX w' v l X := h.kept hk (by simp)
theorem HX.shape {w : World} {v : Value} {l : List Hd} {X : List Nat} (h : HX w v l X) : ∃ a c, v = .slice a l.length c := by
  obtain ⟨⟨a, c, e, _⟩, _⟩ := h; exact ⟨a, c, e⟩
/-- l[k:] -/
theorem HX.from {w : World} {a : Option Addr} {c k : Nat} {l : List Hd} {X : List Nat} (h : HX w (.slice a l.length c) l X) (hk : k ≤ l.length) : HX w (.slice (if c = k then a else a.map (·.add (k * 5))) (l.length - k) (c - k)) (l.drop k) X := by
  refine ⟨SlT_from encH_len h.1 hk, fun a' n c' e => ?_⟩
  cases e
  rcases h.2 _ _ _ rfl with rfl | ⟨b, o, rfl, hb⟩
  · left; split <;> rfl
  · right
    split
    · exact ⟨b, o, rfl, hb⟩
    · exact ⟨b, o + k * 5, by simp [add_none], hb⟩
theorem trim_hs {L : Lg} (hok : L.Ok) {o : Int} (h1 : L.start ≤ o) (h2 : o ≤ L.next) : L.trimK o = 0 ∧ (L.trim o).hs = L.hs.drop (L.hs.findIdx (has o)) ∧ (L.trim o).start = o ∧ (L.trim o).next = L.next := by
  have hs0 := hok.s0
  have hk : L.trimK o = 0 := if_pos ⟨by omega, h2⟩
  refine ⟨hk, ?_⟩
  by_cases hlt : L.start < o
  · have : L.trim o = ⟨L.seek o, o, L.next⟩ := if_pos ⟨hk, hlt⟩
    rw [this]
    exact ⟨rfl, rfl, rfl⟩
  · have e : o = L.start := by omega
    have : L.trim o = L := if_neg (fun h => hlt h.2)
    rw [this]
    refine ⟨?_, e.symm, rfl⟩
    obtain ⟨q1, q2⟩ := from_start hok
    unfold Lg.from at q2
    rw [q1] at q2
    simp only [if_true] at q2
    rw [e]
    exact q2.symm

/-! ## PlogTrims -/
theorem keepN_neg (L : Lg) : L.keepN (-1) = 0 := if_neg (by omega)
theorem ptrims_ok {at_ most time : Int} {l : List Int} {v : Value} {w : World} (hgl : Glob w) (hl : SlT w encI v l) :
    Gives Tryd.prog 12 #[v, .int .i64 at_, .int .i64 most, .int .i64 time] w fun u w' => u = .bool true ∧ Kept [] w w' := by
  refine C_stavelaw17_PlogTrims ?_
  unfold S_stavelaw17_PlogTrims
  obtain ⟨la, lc, rfl, hlc, hlr⟩ := hl
  have hl : SlT w encI (.slice la l.length lc) l := ⟨la, lc, rfl, hlc, hlr⟩
  refine newLS (by omega) (by omega) fun p w1 h1 => ?_
  have k1 := Lg.ok0 (n := 100) (by omega) (by omega)
  simp only [xP_ex0, xP_ex1]
  refine xJoin_of (fun ls w' => ls = [.bool false] ∧ w1 = w') ?_ ?_
  · refine (xR_pnil PT_46).2 ?_
    simp only [Option.isNone_some, xIf_false]
    refine (xR_neqN IFE).2 ?_
    exact ⟨rfl, trivial⟩
  rintro _ _ _ ⟨rfl, rfl⟩
  simp only [List.getD_cons_zero, xIf_false]
  have hp1 : PX w w1 p ⟨[], 100, 100⟩ [] := by
    obtain ⟨F, a1, a2, a3⟩ := h1
    exact ⟨F, a1, a2, by simp, by simp, a3⟩
  refine xLoop_of (fun ls w' => ∃ (i : Nat) (L : Lg) (hv : Value) (X : List Nat), ls = [hv, .int .i64 i] ∧ i ≤ l.length ∧ i ≤ 20 ∧ L.Ok ∧ L.hs.length = i ∧ L.start = 100 ∧ L.next ≤ 100 + 8 * (i : Int) ∧ PX w w' p L X ∧ (∀ g ∈ X, w.heap.size ≤ g) ∧ Own w' 64 5 hv L.hs.length (L.hs.flatMap encH) X)
    (fun ls _ => match ls with | [_, .int _ i] => 20 - i.toNat | _ => 0) ⟨0, _, _, [], rfl, by omega, by omega, k1, rfl, rfl, by simp, hp1, by simp, own_nil _ _ _⟩ ?_
  rintro _ _ w2 ⟨i, L, hv, X, rfl, hi, hi20, hok, hlen, hst, hnext, hpx, hX, ho⟩
  have hk2 := hpx.k0
  refine xJoin_of (fun ls w' => ls = [.bool (decide (i < l.length ∧ i < 20))] ∧ w2 = w') ?_ ?_
  · simp only [xP_nil, xP_pick, xP_func, xP_not, xP_add, xP_sub, xP_mul, xP_lss, xP_leq, xP_gtr, xP_geq, xP_max2, xP_min2, xR_eql, xR_neq, Nat.zero_add, Nat.add_zero, Nat.reduceAdd, List.getD_cons_zero, List.getD_cons_succ, xIf_true, xIf_false, FA_40_0, FA_40_1, FA_64_0, FA_64_1, FA_64_2, FA_67_0, FA_67_1, FA_67_2, FA_67_3, FA_75_0, FA_75_1, FA_75_2, FA_75_3, FA_82_0, FA_82_1, FA_82_2, FA_96_0, FA_96_1, FA_96_2, FA_123_0, FA_123_1, FA_123_2, LEN_34, LEN_38, LEN_51, LEN_56, LEN_60, LEN_65, LEN_83, LEN_88, xIf_dec]
    refine ⟨fun h1 => ⟨by rw [decide_eq_decide.2 (show ((i : Int) < 20) ↔ (i < l.length ∧ i < 20) by omega)], trivial⟩, fun h1 => ⟨by rw [decide_eq_false (show ¬ (i < l.length ∧ i < 20) by omega)], trivial⟩⟩
  rintro _ _ _ ⟨rfl, rfl⟩
  simp only [List.getD_cons_zero, List.getD_cons_succ, xIf_dec]
  refine ⟨fun hgo => ?_, fun hstop => ?_⟩
  · refine (rowInt.get hl hk2 hgo.1).2 ?_
    refine xE_call CF_21 (within_ok (by omega) (by omega) (by omega)) ?_
    rintro _ _ ⟨rfl, rfl⟩
    obtain ⟨wn1, wn2⟩ := within_bd (n := l[i]'hgo.1) (lo := 1) (hi := 8) (by omega)
    generalize within (l[i]'hgo.1) 1 8 = n at *
    have hk : L.addK n i i 0 = 0 := by
      unfold Lg.addK
      rw [show addBad n i i 0 = false from decide_eq_false (by omega)]
      simp only [Bool.false_eq_true, if_false]
      rw [if_neg (by omega)]
    have hL : L.add n i i 0 = ⟨L.hs ++ [⟨L.next, n, i, i, 0⟩], L.start, L.next + n⟩ := by unfold Lg.add; rw [hk]; rfl
    refine addX hpx hok (by omega) fun w3 M h3 hk3 hM => ?_
    have hok3 := Lg.add_ok hok n i i 0
    have ho3 := ho.kept hk3 (fun g hg hm => hM g hm hg)
    rw [hk]
    rw [hL] at h3 hok3
    simp only [xP_ex0, xP_ex1, if_true]
    refine optV_neq.2 ?_
    simp only [erOp, if_true, Option.isSome_none, xIf_false]
    refine (xP_build (cells := (encH ⟨L.next, n, i, i, 0⟩).toArray) (by kernel_rfl)).2 ?_
    refine oneH (h := ⟨L.next, n, i, i, 0⟩) fun sv w4 hs4 hk4 => ?_
    have h4 := h3.next hk4
    refine appH (ho3.kept hk4 (by simp)) hs4 (by simp; omega) fun hv' w5 X' ho5 hX5 hk5 => ?_
    simp only [xP_nil, xP_pick, xP_func, xP_not, xP_add, xP_sub, xP_mul, xP_lss, xP_leq, xP_gtr, xP_geq, xP_max2, xP_min2, xR_eql, xR_neq, Nat.zero_add, Nat.add_zero, Nat.reduceAdd, List.getD_cons_zero, List.getD_cons_succ, xIf_true, xIf_false, FA_40_0, FA_40_1, FA_64_0, FA_64_1, FA_64_2, FA_67_0, FA_67_1, FA_67_2, FA_67_3, FA_75_0, FA_75_1, FA_75_2, FA_75_3, FA_82_0, FA_82_1, FA_82_2, FA_96_0, FA_96_1, FA_96_2, FA_123_0, FA_123_1, FA_123_2, LEN_34, LEN_38, LEN_51, LEN_56, LEN_60, LEN_65, LEN_83, LEN_88]
    rw [wrap64 (by omega) (by omega)]
    have hz4 := h4.k0.size
    refine ⟨⟨i + 1, _, hv', X', rfl, by omega, by omega, hok3, by simp; omega, hst, by show L.next + n ≤ _; omega, h4.own hk5 (fun g hg => hg) hX (fun g hg => ⟨hX5 g hg, ho5.lt g hg⟩), fun g hg => (hX5 g hg).elim (hX g) (fun h => by omega), ho5⟩, by omega⟩
  have hnn : L.next ≤ 1000 := by omega
  have hsn := hok.sn
  have hhx : HX w2 hv L.hs X := ⟨ho.slT encH_len (by omega), fun a m c e => (ho.bases a m c e).imp id (fun ⟨g, o, h1, h2⟩ => ⟨g, o, h1, h2⟩)⟩
  clear ho hstop
  refine nextLS hpx.ps ?_
  refine xE_call CF_21 (within_ok (by omega) (by omega) (by omega)) ?_
  rintro _ _ ⟨rfl, rfl⟩
  obtain ⟨wo1, wo2⟩ := within_bd (n := at_) (lo := 100) (hi := L.next) (by omega)
  generalize within at_ 100 L.next = o at *
  refine nextLS hpx.ps ?_
  obtain ⟨t1, t2, t3, t4⟩ := trim_hs (o := o) hok (by omega) wo2
  have hok3 := Lg.trim_ok hok o
  have hlen3 := Lg.trim_len L o
  refine xJoin_of (fun ls w' => ls = [.bool false] ∧ ∃ M, PX w w' p (L.trim o) X ∧ Kept M w2 w' ∧ ∀ g ∈ M, g ∉ X) ?_ ?_
  · refine trimX hpx hok (by omega) fun w3 M h3 hk3 hM => ?_
    rw [t1]
    refine optV_neq.2 ?_
    simp only [erOp, if_true, Option.isSome_none, xIf_false]
    refine startLS h3.ps ?_
    rw [t3]
    simp only [xR_neq, ne_eq, not_true_eq_false, decide_false, xIf_false]
    refine nextLS h3.ps ?_
    rw [t4]
    simp only [xR_neq, ne_eq, not_true_eq_false, decide_false]
    exact ⟨trivial, M, h3, hk3, hM⟩
  rintro _ _ w3 ⟨rfl, M, h3, hk3, hM⟩
  simp only [List.getD_cons_zero, xIf_false]
  have hh3 := hhx.kept hk3 hM
  have hgap := hok.gap
  generalize L.trim o = N at *
  obtain ⟨ha, hc, rfl⟩ := hh3.shape
  -- the heads that end ahead of o go
  refine xLoop_of (fun ls w' => ∃ (j : Nat) (a : Option Addr) (c : Nat), ls = [.slice a (L.hs.drop j).length c] ∧ j ≤ L.hs.findIdx (has o) ∧ HX w' (.slice a (L.hs.drop j).length c) (L.hs.drop j) X ∧ PX w w' p N X)
    (fun ls _ => match ls with | [.slice _ n _] => n | _ => 0) ⟨0, ha, hc, rfl, by omega, hh3, h3⟩ ?_
  rintro _ _ w4 ⟨j, a, c, rfl, hj, hh4, h4⟩
  have hfl : L.hs.findIdx (has o) ≤ L.hs.length := List.findIdx_le_length
  have hd := kept_drew [] w4
  have hdl : (L.hs.drop j).length = L.hs.length - j := List.length_drop
  refine xJoin_of (fun ls w' => ls = [.bool (decide (j < L.hs.findIdx (has o)))] ∧ Kept [] w4 w') ?_ ?_
  · simp only [xP_nil, xP_pick, xP_func, xP_not, xP_add, xP_sub, xP_mul, xP_lss, xP_leq, xP_gtr, xP_geq, xP_max2, xP_min2, xR_eql, xR_neq, Nat.zero_add, Nat.add_zero, Nat.reduceAdd, List.getD_cons_zero, List.getD_cons_succ, xIf_true, xIf_false, FA_40_0, FA_40_1, FA_64_0, FA_64_1, FA_64_2, FA_67_0, FA_67_1, FA_67_2, FA_67_3, FA_75_0, FA_75_1, FA_75_2, FA_75_3, FA_82_0, FA_82_1, FA_82_2, FA_96_0, FA_96_1, FA_96_2, FA_123_0, FA_123_1, FA_123_2, LEN_34, LEN_38, LEN_51, LEN_56, LEN_60, LEN_65, LEN_83, LEN_88, xIf_dec]
    refine ⟨fun hpos => ?_, fun h0 => ⟨by rw [decide_eq_false (by omega)], hd⟩⟩
    have hjl : j < L.hs.length := by omega
    have h0 : 0 < (L.hs.drop j).length := by omega
    have e0 : (L.hs.drop j)[0] = L.hs[j] := by simp
    have hr := hgap.1 _ (List.getElem_mem hjl)
    have he := hgap.end_le (List.getElem_mem hjl)
    have hnm := hok.nm
    refine rowHd.fldA (i := 0) hh4.1 hd h0 (show fieldB Tryd.prog 64 0 0 = true by kernel_rfl) ONE_3 (u := .int .i64 (L.hs[j]).base) (by rw [e0]; rfl) fun A hA => ?_
    refine rowHd.fldA (i := 0) hh4.1 hd h0 (show fieldB Tryd.prog 64 1 1 = true by kernel_rfl) ONE_3 (u := .int .i64 (L.hs[j]).count) (by rw [e0]; rfl) fun A hA => ?_
    simp only [xP_nil, xP_pick, xP_func, xP_not, xP_add, xP_sub, xP_mul, xP_lss, xP_leq, xP_gtr, xP_geq, xP_max2, xP_min2, xR_eql, xR_neq, Nat.zero_add, Nat.add_zero, Nat.reduceAdd, List.getD_cons_zero, List.getD_cons_succ, xIf_true, xIf_false, FA_40_0, FA_40_1, FA_64_0, FA_64_1, FA_64_2, FA_67_0, FA_67_1, FA_67_2, FA_67_3, FA_75_0, FA_75_1, FA_75_2, FA_75_3, FA_82_0, FA_82_1, FA_82_2, FA_96_0, FA_96_1, FA_96_2, FA_123_0, FA_123_1, FA_123_2, LEN_34, LEN_38, LEN_51, LEN_56, LEN_60, LEN_65, LEN_83, LEN_88]
    rw [wrap64 (by omega) (by omega)]
    refine ⟨?_, hd⟩
    congr 2
    rw [decide_eq_decide.2]
    constructor
    · intro hle
      rcases Nat.lt_or_ge j (L.hs.findIdx (has o)) with hh | hh
      · exact hh
      · have hej : j = L.hs.findIdx (has o) := by omega
        have hfl2 : L.hs.findIdx (has o) < L.hs.length := by omega
        have hp := List.findIdx_getElem (w := hfl2)
        have e : L.hs[j] = L.hs[L.hs.findIdx (has o)]'hfl2 := by congr 1
        rw [← e] at hp
        have := of_decide_eq_true hp
        omega
    · intro hlt
      have hp : has o (L.hs[j]) = false := List.not_of_lt_findIdx hlt
      have := of_decide_eq_false hp
      omega
  rintro _ _ w5 ⟨rfl, hk5⟩
  have h5 := h4.next hk5
  have hh5 := hh4.kept0 hk5
  simp only [List.getD_cons_zero, xIf_dec]
  refine ⟨fun hgo => ?_, fun hno => ?_⟩
  · refine (xP_from (i := 1) SL_51 SZ_64 (by omega) (by omega)).2 ?_
    have hf := hh5.from (k := 1) (by omega)
    rw [List.drop_drop] at hf
    have e1 : (L.hs.drop j).length - 1 = (L.hs.drop (j + 1)).length := by rw [List.length_drop, List.length_drop]; omega
    rw [e1] at hf
    refine ⟨⟨j + 1, _, _, ?_, by omega, hf, h5⟩, ?_⟩
    · rw [← e1]; rfl
    · show (L.hs.drop j).length - (1 : Int).toNat < _
      omega
  obtain rfl : j = L.hs.findIdx (has o) := by omega
  rw [← t2] at hh5 hdl ⊢
  clear hh4 hh3 hhx hno hd
  obtain ⟨q1, q2⟩ := from_start hok3
  rw [t3] at q1 q2
  have hnl : N.hs.length ≤ 20 := by omega
  refine fromLS h5.ps hok3 (by omega) fun fv w6 hf6 hk6 _ => ?_
  have h6 := h5.next hk6
  have hh6 := hh5.kept0 hk6
  rw [q1]
  rw [q2] at hf6
  simp only [xP_ex0, xP_ex1]
  refine xJoin_of (fun ls w' => ls = [.bool false] ∧ Kept [] w6 w') ?_ ?_
  · refine optV_neq.2 ?_
    simp only [erOp, if_true, Option.isSome_none, xIf_false]
    refine xE_call CF_35 (sameH_ok hf6 hh6.1 (by omega)) ?_
    rintro _ w7 ⟨rfl, hk7⟩
    simp only [decide_true, xP_not, Bool.not_true]
    exact ⟨trivial, hk7⟩
  rintro _ _ w7 ⟨rfl, hk7⟩
  have h7 := h6.next hk7
  have hh7 := hh6.kept0 hk7
  simp only [List.getD_cons_zero, xIf_false]
  refine xP_sub.2 ?_
  rw [wrap64 (by omega) (by omega)]
  refine fromLS h7.ps hok3 (by omega) fun gv w8 _ hk8 _ => ?_
  have h8 := h7.next hk8
  have hh8 := hh7.kept0 hk8
  rw [show N.fromK (o - 1) = 13 from if_pos (by omega)]
  simp only [xP_ex0, xP_ex1]
  refine kindOp (op := opPF) (k := 13) (hgl.kept0 h8.k0) fun w9 hk9 => ?_
  have h9 := h8.next hk9
  have hh9 := hh8.kept0 hk9
  simp only [xR_neq, ne_eq, not_true_eq_false, decide_false, xIf_false]
  refine xE_call CF_21 (within_ok (by omega) (by omega) (by omega)) ?_
  rintro _ _ ⟨rfl, rfl⟩
  obtain ⟨wk1, wk2⟩ := within_bd (n := most) (lo := 0) (hi := 20) (by omega)
  generalize within most 0 20 = k at *
  refine keepX h9 hok3 (by omega) fun w10 M10 h10 hk10 hM10 => ?_
  have hh10 := hh9.kept hk10 hM10
  have hokA := dropN_ok hok3 (N.keepN k)
  have hsA := dropN_hs N (N.keepN k)
  have hnA := dropN_next N (N.keepN k)
  have hkk : ((N.keepN k : Nat) : Int) = max ((N.hs.length : Int) - k) 0 := by unfold Lg.keepN; rw [if_pos wk1]; omega
  have hkl : N.keepN k ≤ N.hs.length := by omega
  generalize N.keepN k = z at *
  generalize N.dropN z = A at *
  have hAl : A.hs.length = N.hs.length - z := by rw [hsA, List.length_drop]
  refine xJoin_of (fun ls w' => ls = [.bool false] ∧ Kept [] w10 w') ?_ ?_
  · simp only [xP_nil, xP_pick, xP_func, xP_not, xP_add, xP_sub, xP_mul, xP_lss, xP_leq, xP_gtr, xP_geq, xP_max2, xP_min2, xR_eql, xR_neq, Nat.zero_add, Nat.add_zero, Nat.reduceAdd, List.getD_cons_zero, List.getD_cons_succ, xIf_true, xIf_false, FA_40_0, FA_40_1, FA_64_0, FA_64_1, FA_64_2, FA_67_0, FA_67_1, FA_67_2, FA_67_3, FA_75_0, FA_75_1, FA_75_2, FA_75_3, FA_82_0, FA_82_1, FA_82_2, FA_96_0, FA_96_1, FA_96_2, FA_123_0, FA_123_1, FA_123_2, LEN_34, LEN_38, LEN_51, LEN_56, LEN_60, LEN_65, LEN_83, LEN_88, xP_max2]
    rw [wrap64 (by omega) (by omega), ← hkk]
    simp only [ne_eq, not_true_eq_false, decide_false, xIf_false]
    refine lenLS h10.ps fun w11 hk11 => ?_
    simp only [xP_nil, xP_pick, xP_func, xP_not, xP_add, xP_sub, xP_mul, xP_lss, xP_leq, xP_gtr, xP_geq, xP_max2, xP_min2, xR_eql, xR_neq, Nat.zero_add, Nat.add_zero, Nat.reduceAdd, List.getD_cons_zero, List.getD_cons_succ, xIf_true, xIf_false, FA_40_0, FA_40_1, FA_64_0, FA_64_1, FA_64_2, FA_67_0, FA_67_1, FA_67_2, FA_67_3, FA_75_0, FA_75_1, FA_75_2, FA_75_3, FA_82_0, FA_82_1, FA_82_2, FA_96_0, FA_96_1, FA_96_2, FA_123_0, FA_123_1, FA_123_2, LEN_34, LEN_38, LEN_51, LEN_56, LEN_60, LEN_65, LEN_83, LEN_88]
    rw [wrap64 (by omega) (by omega), decide_eq_false (by omega)]
    exact ⟨rfl, hk11⟩
  rintro _ _ w11 ⟨rfl, hk11⟩
  have h11 := h10.next hk11
  have hh11 := hh10.kept0 hk11
  simp only [List.getD_cons_zero, xIf_false]
  refine (xP_from (i := (z : Nat)) SL_51 SZ_64 (by omega) (by omega)).2 ?_
  have hB := hh11.from (k := z) hkl
  rw [← hsA, ← hAl] at hB
  rw [Int.toNat_natCast, ← hAl]
  generalize (if c = z then a else a.map (·.add (z * 5))) = a2 at *
  generalize c - z = c2 at *
  refine xE_call CF_21 (within_ok (by omega) (by omega) (by omega)) ?_
  rintro _ _ ⟨rfl, rfl⟩
  generalize within time 0 21 = t at *
  have hol : A.olderN t ≤ A.hs.length := List.findIdx_le_length
  refine xLoop_of (fun ls w' => ∃ n : Nat, ls = [.int .i64 n] ∧ n ≤ A.olderN t ∧ w11 = w') (fun ls _ => match ls with | [.int _ n] => A.olderN t - n.toNat | _ => 0) ⟨0, rfl, by omega, rfl⟩ ?_
  rintro _ _ _ ⟨n, rfl, hn, rfl⟩
  refine xJoin_of (fun ls w' => ls = [.bool (decide (n < A.olderN t))] ∧ w11 = w') ?_ ?_
  · simp only [xP_nil, xP_pick, xP_func, xP_not, xP_add, xP_sub, xP_mul, xP_lss, xP_leq, xP_gtr, xP_geq, xP_max2, xP_min2, xR_eql, xR_neq, Nat.zero_add, Nat.add_zero, Nat.reduceAdd, List.getD_cons_zero, List.getD_cons_succ, xIf_true, xIf_false, FA_40_0, FA_40_1, FA_64_0, FA_64_1, FA_64_2, FA_67_0, FA_67_1, FA_67_2, FA_67_3, FA_75_0, FA_75_1, FA_75_2, FA_75_3, FA_82_0, FA_82_1, FA_82_2, FA_96_0, FA_96_1, FA_96_2, FA_123_0, FA_123_1, FA_123_2, LEN_34, LEN_38, LEN_51, LEN_56, LEN_60, LEN_65, LEN_83, LEN_88, xIf_dec]
    refine ⟨fun hlt => ?_, fun hge => ⟨by rw [decide_eq_false (by omega)], trivial⟩⟩
    have hnl : n < A.hs.length := by omega
    refine rowHd.fldA hB.1 (Kept.refl _ _) hnl (show fieldB Tryd.prog 64 2 2 = true by kernel_rfl) ONE_3 (u := .int .i64 (A.hs[n]).time) rfl fun A hA => ?_
    simp only [xP_nil, xP_pick, xP_func, xP_not, xP_add, xP_sub, xP_mul, xP_lss, xP_leq, xP_gtr, xP_geq, xP_max2, xP_min2, xR_eql, xR_neq, Nat.zero_add, Nat.add_zero, Nat.reduceAdd, List.getD_cons_zero, List.getD_cons_succ, xIf_true, xIf_false, FA_40_0, FA_40_1, FA_64_0, FA_64_1, FA_64_2, FA_67_0, FA_67_1, FA_67_2, FA_67_3, FA_75_0, FA_75_1, FA_75_2, FA_75_3, FA_82_0, FA_82_1, FA_82_2, FA_96_0, FA_96_1, FA_96_2, FA_123_0, FA_123_1, FA_123_2, LEN_34, LEN_38, LEN_51, LEN_56, LEN_60, LEN_65, LEN_83, LEN_88]
    refine ⟨?_, trivial⟩
    congr 2
    rw [decide_eq_decide.2]
    constructor
    · intro hlt
      rcases Nat.lt_or_ge n (Lg.olderN _ t) with hh | hh
      · exact hh
      · have hei : n = Lg.olderN _ t := Nat.le_antisymm hn hh
        exact absurd hlt (by
          subst hei
          have hp := List.findIdx_getElem (w := hnl)
          have := of_decide_eq_true hp
          exact Int.not_lt.2 this)
    · intro hlt
      have hp := List.not_of_lt_findIdx hlt
      have := of_decide_eq_false hp
      omega
  rintro _ _ _ ⟨rfl, rfl⟩
  simp only [List.getD_cons_zero, xIf_dec]
  refine ⟨fun hgo => ?_, fun hno => ?_⟩
  · refine xP_add.2 ?_
    rw [wrap64 (by omega) (by omega)]
    refine ⟨⟨n + 1, rfl, by omega, trivial⟩, ?_⟩
    show A.olderN t - ((n : Int) + 1).toNat < A.olderN t - (n : Int).toNat
    omega
  obtain rfl : n = A.olderN t := by omega
  have hokC := dropN_ok hokA (A.olderN t)
  have hsC := dropN_hs A (A.olderN t)
  have hnC := dropN_next A (A.olderN t)
  refine xJoin_of (fun ls w' => ls = [.bool false] ∧ HX w' (.slice a2 A.hs.length c2) A.hs X ∧ PX w w' p (A.dropN (A.olderN t)) X) ?_ ?_
  · refine olderX h11 hokA (by omega) fun w12 M12 h12 hk12 hM12 => ?_
    have hB12 := hB.kept hk12 hM12
    have hCl : (A.dropN (A.olderN t)).hs.length = A.hs.length - A.olderN t := by rw [hsC, List.length_drop]
    simp only [xR_neq, ne_eq, not_true_eq_false, decide_false, xIf_false]
    refine lenLS h12.ps fun w13 hk13 => ?_
    simp only [xP_nil, xP_pick, xP_func, xP_not, xP_add, xP_sub, xP_mul, xP_lss, xP_leq, xP_gtr, xP_geq, xP_max2, xP_min2, xR_eql, xR_neq, Nat.zero_add, Nat.add_zero, Nat.reduceAdd, List.getD_cons_zero, List.getD_cons_succ, xIf_true, xIf_false, FA_40_0, FA_40_1, FA_64_0, FA_64_1, FA_64_2, FA_67_0, FA_67_1, FA_67_2, FA_67_3, FA_75_0, FA_75_1, FA_75_2, FA_75_3, FA_82_0, FA_82_1, FA_82_2, FA_96_0, FA_96_1, FA_96_2, FA_123_0, FA_123_1, FA_123_2, LEN_34, LEN_38, LEN_51, LEN_56, LEN_60, LEN_65, LEN_83, LEN_88]
    rw [wrap64 (by omega) (by omega), decide_eq_false (by omega)]
    simp only [xIf_false]
    refine keepX (h12.next hk13) hokC (by omega) fun w14 M14 h14 hk14 hM14 => ?_
    rw [keepN_neg] at h14 ⊢
    simp only [xR_neq]
    exact ⟨rfl, (hB12.kept0 hk13).kept hk14 hM14, h14⟩
  rintro _ _ w14 ⟨rfl, hB14, h14⟩
  simp only [List.getD_cons_zero, xIf_false]
  have hd14 := kept_drew [] w14
  have h14d := h14.next hd14
  have fin : ∀ w', PX w w' p (A.dropN (A.olderN t)) X → xE Tryd.prog (sCall 31 #[.pointer (some ⟨p, 0, none⟩)]) w' fun v215 w149 => xR Tryd.prog (sEq .eql 3 false v215 (.int .i64 L.next)) w149 fun v217 =>
      xIf v217 (xE Tryd.prog (sCall 7 #[]) w149 fun v220 w152 => Ret (fun u w' => u = .bool true ∧ Kept [] w w') (.returned v220) w152) (Ret (fun u w' => u = .bool true ∧ Kept [] w w') (.returned (.bool false)) w149) := by
    intro w' h'
    refine nextLS h'.ps ?_
    simp only [xP_nil, xP_pick, xP_func, xP_not, xP_add, xP_sub, xP_mul, xP_lss, xP_leq, xP_gtr, xP_geq, xP_max2, xP_min2, xR_eql, xR_neq, Nat.zero_add, Nat.add_zero, Nat.reduceAdd, List.getD_cons_zero, List.getD_cons_succ, xIf_true, xIf_false, FA_40_0, FA_40_1, FA_64_0, FA_64_1, FA_64_2, FA_67_0, FA_67_1, FA_67_2, FA_67_3, FA_75_0, FA_75_1, FA_75_2, FA_75_3, FA_82_0, FA_82_1, FA_82_2, FA_96_0, FA_96_1, FA_96_2, FA_123_0, FA_123_1, FA_123_2, LEN_34, LEN_38, LEN_51, LEN_56, LEN_60, LEN_65, LEN_83, LEN_88]
    rw [decide_eq_true (show (A.dropN (A.olderN t)).next = L.next by rw [hnC, hnA, t4])]
    simp only [xIf_true]
    exact pRunsG hgl h'.k0
  refine lenLS h14d.ps fun w15 hk15 => ?_
  have h15 := h14d.next hk15
  have hB15 := hB14.kept0 (hd14.then hk15 (by simp))
  simp only [xR_eql, xIf_dec]
  refine ⟨fun _ => fin _ h15, fun hne => ?_⟩
  have hCl : (A.dropN (A.olderN t)).hs.length = A.hs.length - A.olderN t := by rw [hsC, List.length_drop]
  have hlt : A.olderN t < A.hs.length := by omega
  have hfst := hokC.first (A.hs[A.olderN t]) (by rw [hsC, List.getElem?_drop, Nat.add_zero, List.getElem?_eq_getElem hlt])
  have hr := hokA.gap.1 _ (List.getElem_mem hlt)
  have he := hokA.gap.end_le (List.getElem_mem hlt)
  have hnmA := hokA.nm
  refine rowHd.fldA hB15.1 (Kept.refl _ _) hlt (show fieldB Tryd.prog 64 0 0 = true by kernel_rfl) ONE_3 (u := .int .i64 (A.hs[A.olderN t]).base) rfl fun A0 hA0 => ?_
  refine rowHd.fldA hB15.1 (Kept.refl _ _) hlt (show fieldB Tryd.prog 64 1 1 = true by kernel_rfl) ONE_3 (u := .int .i64 (A.hs[A.olderN t]).count) rfl fun A1 hA1 => ?_
  generalize A.hs[A.olderN t] = y at *
  simp only [xP_add, xP_sub]
  rw [wrap64 (x := y.base + y.count) (by omega) (by omega), wrap64 (by omega) (by omega)]
  refine startLS h15.ps ?_
  refine (still1 ONE_3 (hA1 _ (Kept.refl _ _))).2 ?_
  refine (still1 ONE_3 (hA0 _ (Kept.refl _ _))).2 ?_
  simp only [xP_nil, xP_pick, xP_func, xP_not, xP_add, xP_sub, xP_mul, xP_lss, xP_leq, xP_gtr, xP_geq, xP_max2, xP_min2, xR_eql, xR_neq, Nat.zero_add, Nat.add_zero, Nat.reduceAdd, List.getD_cons_zero, List.getD_cons_succ, xIf_true, xIf_false, FA_40_0, FA_40_1, FA_64_0, FA_64_1, FA_64_2, FA_67_0, FA_67_1, FA_67_2, FA_67_3, FA_75_0, FA_75_1, FA_75_2, FA_75_3, FA_82_0, FA_82_1, FA_82_2, FA_96_0, FA_96_1, FA_96_2, FA_123_0, FA_123_1, FA_123_2, LEN_34, LEN_38, LEN_51, LEN_56, LEN_60, LEN_65, LEN_83, LEN_88, xIf_dec]
  exact ⟨fun _ => fin _ h15, fun hh => by omega⟩
end Go.Proofs.YtjajjblppogfoaaDoor
