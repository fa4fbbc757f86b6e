import Derived.Test.YtjajjblppogfoaaDoorXpPlog8
import Derived.Test.YtjajjblppogfoaaDoorXpPlogA
namespace Go.Proofs.YtjajjblppogfoaaDoor
set_option linter.unusedSimpArgs false
set_option linter.unusedVariables false
set_option maxRecDepth 100000
attribute [local irreducible] Go.X.xE
open Go Go.X Go.RowKit

/-! ## PlogPlays -/
theorem xR_pnilNe {P : Program} {T : TypeId} {w : World} {K : Value → Prop} {p : Option Addr} {c : Bool} (h : ptrB P T) : xR P (sEq .neq T c (.pointer p) (.pointer none)) w K ↔ K (.bool p.isSome) := by
  cases p with
  | none =>
    refine xR_of ?_
    unfold sEq
    refine run_sB P _ w ?_
    have : eqGuard .neq T (bif c then .const undef else .tmp 0) (.tmp 0) (.pointer none) (.pointer none) = pure () := by cases c <;> rfl
    rw [this]
    simp only [pure_bind]
    unfold ptrB at h
    have e : ∀ d : Nat, (Op.equalIn (d + 1) T (.pointer none) (.pointer none)).run P w = .ok true w := fun d => by
      simp [Op.equalIn, run_underlying h]
    have := e 9999
    simp [binOp, Op.equal, Op.maxDepth, this]
  | some a =>
    refine xR_of ?_
    unfold sEq
    refine run_sB P _ w ?_
    have : eqGuard .neq T (bif c then .const undef else .tmp 0) (.tmp 0) (.pointer (some a)) (.pointer none) = pure () := by cases c <;> rfl
    rw [this]
    simp only [pure_bind]
    unfold ptrB at h
    have e : ∀ d : Nat, (Op.equalIn (d + 1) T (.pointer (some a)) (.pointer none)).run P w = .ok false w := fun d => by
      simp [Op.equalIn, run_underlying h]
    have := e 9999
    simp [binOp, Op.equal, Op.maxDepth, this]
/-- The log, the document's log, and a call that lies in block Q. -/
def TT (w0 w : World) (p q Q : Nat) (L M : Lg) (xs : List Value) : Prop := ∃ F G, LogI w p L F ∧ RefI w q M G ∧ (∀ g ∈ F, g ∉ G) ∧ Q ∉ F ∧ Q ∉ G ∧ (∀ g ∈ F, w0.heap.size ≤ g) ∧ (∀ g ∈ G, w0.heap.size ≤ g) ∧ Blk w Q 67 xs ∧ Kept [] w0 w
theorem TT.k0 {w0 w : World} {p q Q : Nat} {L M : Lg} {xs : List Value} (h : TT w0 w p q Q L M xs) : Kept [] w0 w := by obtain ⟨F, G, _, _, _, _, _, _, _, _, h⟩ := h; exact h
theorem TT.ps {w0 w : World} {p q Q : Nat} {L M : Lg} {xs : List Value} (h : TT w0 w p q Q L M xs) : PS w0 w p L := by obtain ⟨F, G, h1, _, _, _, _, h2, _, _, h⟩ := h; exact ⟨F, h1, h2, h⟩
theorem TT.blk {w0 w : World} {p q Q : Nat} {L M : Lg} {xs : List Value} (h : TT w0 w p q Q L M xs) : Blk w Q 67 xs := by obtain ⟨F, G, _, _, _, _, _, _, _, h, _⟩ := h; exact h
theorem TT.next {w0 w w' : World} {p q Q : Nat} {L M : Lg} {xs : List Value} (h : TT w0 w p q Q L M xs) (hk : Kept [] w w') : TT w0 w' p q Q L M xs := by
  obtain ⟨F, G, h1, h2, h3, h4, h5, h6, h7, h8, h9⟩ := h
  exact ⟨F, G, h1.kept0 hk, h2.kept0 hk, h3, h4, h5, h6, h7, h8.kept hk (by simp), h9.then hk (by simp)⟩
theorem TT.ref {w0 w : World} {p q Q : Nat} {L M : Lg} {xs : List Value} (h : TT w0 w p q Q L M xs) : ∃ hv last, Blk w q 75 [hv, .int .i64 M.start, .int .i64 M.next, .int .i64 last] ∧ SlT w encH hv M.hs := by
  obtain ⟨F, G, h1, ⟨hv, last, Fh, a1, a2, a3, rfl⟩, _⟩ := h
  exact ⟨hv, last, a1, a2.slT encH_len (by omega)⟩
theorem TT.one {w0 w w' : World} {p q Q : Nat} {L L' M : Lg} {xs : List Value} {F F' G : List Nat} (h1 : LogI w p L F) (h2 : RefI w q M G) (h3 : ∀ g ∈ F, g ∉ G) (h4 : Q ∉ F) (h5 : Q ∉ G) (h6 : ∀ g ∈ F, w0.heap.size ≤ g) (h7 : ∀ g ∈ G, w0.heap.size ≤ g) (h8 : Blk w Q 67 xs) (h9 : Kept [] w0 w)
    (hL : LogI w' p L' F') (hk : Kept F w w') (hF : ∀ g ∈ F', g ∈ F ∨ w.heap.size ≤ g) : TT w0 w' p q Q L' M xs := by
  have hz := h9.size
  have hq := h8.lt
  have hlt := h2.lt
  exact ⟨F', G, hL, h2.kept hk (fun g hg hm => h3 g hm hg), fun g hg hm => (hF g hg).elim (fun h => h3 g h hm) (fun h => by have := hlt g hm; omega), fun hm => (hF Q hm).elim h4 (fun h => by omega), h5, fun g hg => (hF g hg).elim (h6 g) (fun h => by omega), h7, h8.kept hk h4, h9.then hk (fun g hg => .inr (h6 g hg))⟩
theorem TT.two {w0 w w' : World} {p q Q : Nat} {L M M' : Lg} {xs : List Value} {F G G' : List Nat} (h1 : LogI w p L F) (h2 : RefI w q M G) (h3 : ∀ g ∈ F, g ∉ G) (h4 : Q ∉ F) (h5 : Q ∉ G) (h6 : ∀ g ∈ F, w0.heap.size ≤ g) (h7 : ∀ g ∈ G, w0.heap.size ≤ g) (h8 : Blk w Q 67 xs) (h9 : Kept [] w0 w)
    (hM : RefI w' q M' G') (hk : Kept G w w') (hG : ∀ g ∈ G', g ∈ G ∨ w.heap.size ≤ g) : TT w0 w' p q Q L M' xs := by
  have hz := h9.size
  have hq := h8.lt
  have hlt := h1.lt
  exact ⟨F, G', h1.kept hk (fun g hg hm => h3 g hg hm), hM, fun g hg hm => (hG g hm).elim (fun h => h3 g hg h) (fun h => by have := hlt g hg; omega), h4, fun hm => (hG Q hm).elim h5 (fun h => by omega), h6, fun g hg => (hG g hg).elim (h7 g) (fun h => by omega), h8.kept hk h5, h9.then hk (fun g hg => .inr (h7 g hg))⟩
section
variable {w0 w : World} {p q Q : Nat} {L M : Lg} {xs : List Value} {K : Value → World → Prop}
theorem addT (h : TT w0 w p q Q L M xs) {c t s e : Int} (hok : L.Ok) (hlen : L.hs.length ≤ 1000) (k : ∀ w', TT w0 w' p q Q (L.add c t s e) M xs → K (.tuple #[.int .i64 (if L.addK c t s e = 0 then L.next else 0), optV (erOp opPA (L.addK c t s e))]) w') :
    xE Tryd.prog (sCall 24 #[.pointer (some ⟨p, 0, none⟩), .int .i64 c, .int .i64 t, .int .i64 s, .int .i64 e]) w K := by
  obtain ⟨F, G, h1, h2, h3, h4, h5, h6, h7, h8, h9⟩ := h
  refine xE_call CF_24 (padd_ok h1 hok (by omega)) ?_
  rintro _ w' ⟨F', rfl, hL, hk, hF⟩
  exact k w' (TT.one h1 h2 h3 h4 h5 h6 h7 h8 h9 hL hk hF)
theorem raddT (h : TT w0 w p q Q L M xs) {c t s e : Int} (hok : M.Ok) (hlen : M.hs.length ≤ 1000) (k : ∀ w', TT w0 w' p q Q L (M.add c t s e) xs → K (.tuple #[.int .i64 (if M.addK c t s e = 0 then M.next else 0), .int .i64 (M.addK c t s e)]) w') :
    xE Tryd.prog (sCall 37 #[.pointer (some ⟨q, 0, none⟩), .int .i64 c, .int .i64 t, .int .i64 s, .int .i64 e]) w K := by
  obtain ⟨F, G, h1, h2, h3, h4, h5, h6, h7, h8, h9⟩ := h
  refine xE_call CF_37 (radd_ok h2 hok (by omega)) ?_
  rintro _ w' ⟨F', rfl, hL, hk, hF⟩
  exact k w' (TT.two h1 h2 h3 h4 h5 h6 h7 h8 h9 hL hk hF)
theorem trimT (h : TT w0 w p q Q L M xs) {o : Int} (hok : L.Ok) (hlen : L.hs.length ≤ 1000) (k : ∀ w', TT w0 w' p q Q (L.trim o) M xs → K (optV (erOp opPT (L.trimK o))) w') :
    xE Tryd.prog (sCall 26 #[.pointer (some ⟨p, 0, none⟩), .int .i64 o]) w K := by
  obtain ⟨F, G, h1, h2, h3, h4, h5, h6, h7, h8, h9⟩ := h
  refine xE_call CF_26 (ptrim_ok h1 hok (by omega)) ?_
  rintro _ w' ⟨F', rfl, hL, hk, hF⟩
  exact k w' (TT.one h1 h2 h3 h4 h5 h6 h7 h8 h9 hL hk hF)
theorem rtrimT (h : TT w0 w p q Q L M xs) {o : Int} (hok : M.Ok) (hlen : M.hs.length ≤ 1000) (k : ∀ w', TT w0 w' p q Q L (M.trim o) xs → K (.int .i64 (M.trimK o)) w') :
    xE Tryd.prog (sCall 39 #[.pointer (some ⟨q, 0, none⟩), .int .i64 o]) w K := by
  obtain ⟨F, G, h1, h2, h3, h4, h5, h6, h7, h8, h9⟩ := h
  refine xE_call CF_39 (rtrim_ok h2 hok (by omega)) ?_
  rintro _ w' ⟨F', rfl, hL, hk, hF⟩
  exact k w' (TT.two h1 h2 h3 h4 h5 h6 h7 h8 h9 hL hk hF)
theorem keepT (h : TT w0 w p q Q L M xs) {m : Int} (hok : L.Ok) (hlen : L.hs.length ≤ 1000) (k : ∀ w', TT w0 w' p q Q (L.dropN (L.keepN m)) M xs → K (.int .i64 (L.keepN m)) w') :
    xE Tryd.prog (sCall 33 #[.pointer (some ⟨p, 0, none⟩), .int .i64 m]) w K := by
  obtain ⟨F, G, h1, h2, h3, h4, h5, h6, h7, h8, h9⟩ := h
  refine xE_call CF_33 (pkeep_ok h1 hok (by omega)) ?_
  rintro _ w' ⟨F', rfl, hL, hk, hF⟩
  exact k w' (TT.one h1 h2 h3 h4 h5 h6 h7 h8 h9 hL hk hF)
theorem rkeepT (h : TT w0 w p q Q L M xs) {m : Int} (hok : M.Ok) (hlen : M.hs.length ≤ 1000) (k : ∀ w', TT w0 w' p q Q L (M.dropN (M.keepN m)) xs → K (.int .i64 (M.keepN m)) w') :
    xE Tryd.prog (sCall 40 #[.pointer (some ⟨q, 0, none⟩), .int .i64 m]) w K := by
  obtain ⟨F, G, h1, h2, h3, h4, h5, h6, h7, h8, h9⟩ := h
  refine xE_call CF_40 (rkeep_ok h2 hok (by omega)) ?_
  rintro _ w' ⟨F', rfl, hL, hk, hF⟩
  exact k w' (TT.two h1 h2 h3 h4 h5 h6 h7 h8 h9 hL hk hF)
theorem olderT (h : TT w0 w p q Q L M xs) {m : Int} (hok : L.Ok) (hlen : L.hs.length ≤ 1000) (k : ∀ w', TT w0 w' p q Q (L.dropN (L.olderN m)) M xs → K (.int .i64 (L.olderN m)) w') :
    xE Tryd.prog (sCall 34 #[.pointer (some ⟨p, 0, none⟩), .int .i64 m]) w K := by
  obtain ⟨F, G, h1, h2, h3, h4, h5, h6, h7, h8, h9⟩ := h
  refine xE_call CF_34 (polder_ok h1 hok (by omega)) ?_
  rintro _ w' ⟨F', rfl, hL, hk, hF⟩
  exact k w' (TT.one h1 h2 h3 h4 h5 h6 h7 h8 h9 hL hk hF)
theorem rolderT (h : TT w0 w p q Q L M xs) {m : Int} (hok : M.Ok) (hlen : M.hs.length ≤ 1000) (k : ∀ w', TT w0 w' p q Q L (M.dropN (M.olderN m)) xs → K (.int .i64 (M.olderN m)) w') :
    xE Tryd.prog (sCall 41 #[.pointer (some ⟨q, 0, none⟩), .int .i64 m]) w K := by
  obtain ⟨F, G, h1, h2, h3, h4, h5, h6, h7, h8, h9⟩ := h
  refine xE_call CF_41 (rolder_ok h2 hok (by omega)) ?_
  rintro _ w' ⟨F', rfl, hL, hk, hF⟩
  exact k w' (TT.two h1 h2 h3 h4 h5 h6 h7 h8 h9 hL hk hF)
theorem rfromT (h : TT w0 w p q Q L M xs) {o : Int} (hok : M.Ok) (hlen : M.hs.length ≤ 1000) (k : ∀ fv w', SlT w' encH fv (M.from o) → Kept [] w w' → K (.tuple #[fv, .int .i64 (M.fromK o)]) w') :
    xE Tryd.prog (sCall 38 #[.pointer (some ⟨q, 0, none⟩), .int .i64 o]) w K := by
  obtain ⟨F, G, h1, h2, h3, h4, h5, h6, h7, h8, h9⟩ := h
  refine xE_call CF_38 (rfrom_ok h2 hok (by omega)) ?_
  rintro _ w' ⟨fv, rfl, hf, hk⟩
  exact k fv w' hf hk
theorem newQ {x : Ak} {k : ∀ w', Blk w' w.heap.size 67 (encK x) → Kept [] w w' → K (.pointer (some ⟨w.heap.size, 0, none⟩)) w'} :
    xE Tryd.prog (sAlloc 67) w fun v w1 => xE Tryd.prog (sStore 67 v (.agg (encK x).toArray)) w1 fun _ w2 => K v w2 := by
  refine xE_alloc Z_67 fun w1 hb1 hk1 hz1 => ?_
  refine xE_storeN (l1 := []) (l2 := [.int .i64 0, .int .i64 0, .int .i64 0, .bool false]) (l3 := []) SZ_67 hb1 rfl rfl rfl (by intro u hu; simp [encK, Value.cells] at hu; rcases hu with rfl | rfl | rfl | rfl <;> rfl) fun w2 hb2 hk2 hz2 => ?_
  exact k w2 (by simpa [Value.cells] using hb2) (hk1.trans hk2 (by simp) (by simp))
theorem ldQ {x : Ak} (h : Blk w Q 67 (encK x)) :
    (∀ K, xR Tryd.prog (sLoad 3 (.pointer (some ⟨Q, 0, none⟩))) w K ↔ K (.int .i64 x.kind)) ∧ (∀ K, xR Tryd.prog (sLoad 3 (.pointer (some ⟨Q, 1, none⟩))) w K ↔ K (.int .i64 x.a)) ∧ (∀ K, xR Tryd.prog (sLoad 3 (.pointer (some ⟨Q, 2, none⟩))) w K ↔ K (.int .i64 x.b)) ∧ (∀ K, xR Tryd.prog (sLoad 4 (.pointer (some ⟨Q, 3, none⟩))) w K ↔ K (.bool x.raw)) :=
  ⟨fun _ => ld1 ONE_3 (h.cell (o := 0)), fun _ => ld1 ONE_3 (h.cell (o := 1)), fun _ => ld1 ONE_3 (h.cell (o := 2)), fun _ => ld1 ONE_4 (h.cell (o := 3))⟩
end
theorem pplays_ok {first : Int} {l : List Ak} {v : Value} {w : World} (hgl : Glob w) (hf1 : -9223372036854775808 ≤ first) (hf2 : first ≤ 9223372036854775807) (hl : SlT w encK v l) :
    Gives Tryd.prog 13 #[.int .i64 first, v] w fun u w' => u = .bool true ∧ Kept [] w w' := by
  refine C_stavelaw17_PlogPlays ?_
  unfold S_stavelaw17_PlogPlays
  obtain ⟨la, lc, rfl, hlc, hlr⟩ := hl
  have hl : SlT w encK (.slice la l.length lc) l := ⟨la, lc, rfl, hlc, hlr⟩
  refine xE_call CF_23 (pnew_ok hf1 hf2) ?_
  rintro u1 w1 ⟨hk1, h1⟩
  rcases h1 with ⟨hneg, rfl⟩ | ⟨hpos, p, F, rfl, hL, hF⟩
  · simp only [xP_ex0, xP_ex1]
    refine xE_call CF_36 rnew_ok ?_
    rintro u2 w2 ⟨hk2, h2⟩
    obtain ⟨_, rfl⟩ := h2.resolve_right (fun h => by omega)
    have hk02 := hk1.then hk2 (by simp)
    simp only [xP_ex0, xP_ex1]
    refine xJoin_of (fun ls w' => ls = [.bool false] ∧ Kept [] w2 w') ?_ ?_
    · refine (xR_pnil PT_46).2 ((xR_pnil PT_71).2 ((xR_neqBool BOOLG).2 ?_))
      simp only [Option.isNone_none, beq_self_eq_true, Bool.not_true, xIf_false]
      refine kindOp (op := opPN) (k := 1) (hgl.kept0 hk02) fun w3 hk3 => ?_
      simp only [xR_neq, ne_eq, not_true_eq_false, decide_false]
      exact ⟨trivial, hk3⟩
    rintro _ _ w3 ⟨rfl, hk3⟩
    have hk03 := hk02.then hk3 (by simp)
    simp only [List.getD_cons_zero, xIf_false]
    refine xLoop_of (fun ls w' => ls = [.int .i64 0] ∧ w3 = w') (fun _ _ => 0) ⟨rfl, rfl⟩ ?_
    rintro _ _ _ ⟨rfl, rfl⟩
    refine xJoin_of (fun ls w' => ls = [.bool false] ∧ w3 = w') ?_ ?_
    · simp only [xP_nil, xP_pick, xP_func, xP_not, xP_add, xP_sub, xP_mul, xP_lss, xP_leq, xP_gtr, xP_geq, xP_max2, xP_min2, xR_eql, xR_neq, Nat.zero_add, Nat.add_zero, Nat.reduceAdd, List.getD_cons_zero, List.getD_cons_succ, xIf_true, xIf_false, FA_40_0, FA_40_1, FA_64_0, FA_64_1, FA_64_2, FA_67_0, FA_67_1, FA_67_2, FA_67_3, FA_75_0, FA_75_1, FA_75_2, FA_75_3, FA_82_0, FA_82_1, FA_82_2, FA_96_0, FA_96_1, FA_96_2, FA_123_0, FA_123_1, FA_123_2, LEN_34, LEN_38, LEN_51, LEN_56, LEN_60, LEN_65, LEN_83, LEN_88, xIf_dec]
      refine ⟨fun _ => ⟨fun _ => ?_, fun _ => ⟨trivial, trivial⟩⟩, fun _ => ⟨trivial, trivial⟩⟩
      refine (xR_pnilNe PT_46).2 ?_
      exact ⟨rfl, trivial⟩
    rintro _ _ _ ⟨rfl, rfl⟩
    simp only [List.getD_cons_zero, xIf_false]
    exact pRunsG hgl hk03
  simp only [xP_ex0, xP_ex1]
  refine xE_call CF_36 rnew_ok ?_
  rintro u2 w2 ⟨hk2, h2⟩
  obtain ⟨_, q, G, rfl, hR, hG⟩ := h2.resolve_left (fun h => by omega)
  have hk02 := hk1.then hk2 (by simp)
  simp only [xP_ex0, xP_ex1]
  refine xJoin_of (fun ls w' => ls = [.bool false] ∧ Kept [] w2 w') ?_ ?_
  · refine (xR_pnil PT_46).2 ((xR_pnil PT_71).2 ((xR_neqBool BOOLG).2 ?_))
    simp only [Option.isNone_some, beq_self_eq_true, Bool.not_true, xIf_false]
    refine xE_call CF_17 kindNil_ok ?_
    rintro _ w3 ⟨rfl, hk3⟩
    simp only [xR_neq, ne_eq, not_true_eq_false, decide_false]
    exact ⟨trivial, hk3⟩
  rintro _ _ w3 ⟨rfl, hk3⟩
  have hk03 := hk02.then hk3 (by simp)
  have k1 := Lg.ok0 (n := first) hpos hf2
  have hlt1 := hL.lt
  have hz1 := hk1.size
  simp only [List.getD_cons_zero, xIf_false]
  refine xLoop_of (fun ls w' => ∃ (i : Nat) (L : Lg) (F G : List Nat), ls = [.int .i64 i] ∧ i ≤ l.length ∧ i ≤ 50 ∧ L.Ok ∧ L.hs.length ≤ i ∧ LogI w' p L F ∧ RefI w' q L G ∧ (∀ g ∈ F, g ∉ G) ∧ (∀ g ∈ F, w.heap.size ≤ g) ∧ (∀ g ∈ G, w.heap.size ≤ g) ∧ Kept [] w w')
    (fun ls _ => match ls with | [.int _ i] => 50 - i.toNat | _ => 0) ⟨0, _, F, G, rfl, by omega, by omega, k1, by simp, (hL.kept0 hk2).kept0 hk3, hR.kept0 hk3, fun g hg hm => by have := hlt1 g hg; have := hG g hm; omega, hF, fun g hg => by have := hG g hg; omega, hk03⟩ ?_
  rintro _ _ w4 ⟨i, L, F, G, rfl, hi, hi50, hok, hlen, hL, hR, hFG, hF, hG, hk4⟩
  have hs0 := hok.s0; have hsn := hok.sn; have hnm := hok.nm
  refine xJoin_of (fun ls w' => ls = [.bool (decide (i < l.length ∧ i < 50))] ∧ w4 = w') ?_ ?_
  · simp only [xP_nil, xP_pick, xP_func, xP_not, xP_add, xP_sub, xP_mul, xP_lss, xP_leq, xP_gtr, xP_geq, xP_max2, xP_min2, xR_eql, xR_neq, Nat.zero_add, Nat.add_zero, Nat.reduceAdd, List.getD_cons_zero, List.getD_cons_succ, xIf_true, xIf_false, FA_40_0, FA_40_1, FA_64_0, FA_64_1, FA_64_2, FA_67_0, FA_67_1, FA_67_2, FA_67_3, FA_75_0, FA_75_1, FA_75_2, FA_75_3, FA_82_0, FA_82_1, FA_82_2, FA_96_0, FA_96_1, FA_96_2, FA_123_0, FA_123_1, FA_123_2, LEN_34, LEN_38, LEN_51, LEN_56, LEN_60, LEN_65, LEN_83, LEN_88, xIf_dec]
    refine ⟨fun h1 => ⟨fun h2 => ?_, fun h2 => ⟨by rw [decide_eq_false (by omega)], trivial⟩⟩, fun h1 => ⟨by rw [decide_eq_false (by omega)], trivial⟩⟩
    refine (xR_pnilNe PT_46).2 ?_
    exact ⟨by rw [decide_eq_true (by omega)]; rfl, trivial⟩
  rintro _ _ _ ⟨rfl, rfl⟩
  simp only [List.getD_cons_zero, xIf_dec]
  refine ⟨fun hgo => ?_, fun hstop => pRunsG hgl hk4⟩
  have hil := hgo.1
  refine (rowK.get hl hk4 hil).2 ?_
  generalize l[i] = x at *
  have hltF := hL.lt
  have hltG := hR.lt
  refine newQ (x := x) (k := fun w5 hb5 hk5 => ?_)
  have ht5 : TT w w5 p q w4.heap.size L L (encK x) := ⟨F, G, hL.kept0 hk5, hR.kept0 hk5, hFG, fun hm => by have := hltF _ hm; omega, fun hm => by have := hltG _ hm; omega, hF, hG, hb5, hk4.then hk5 (by simp)⟩
  clear hL hR hFG hF hG hltF hltG hb5
  generalize w4.heap.size = Q at *
  obtain ⟨Q0, Q1, Q2, Q3⟩ := ldQ ht5.blk
  simp only [xP_nil, xP_pick, xP_func, xP_not, xP_add, xP_sub, xP_mul, xP_lss, xP_leq, xP_gtr, xP_geq, xP_max2, xP_min2, xR_eql, xR_neq, Nat.zero_add, Nat.add_zero, Nat.reduceAdd, List.getD_cons_zero, List.getD_cons_succ, xIf_true, xIf_false, FA_40_0, FA_40_1, FA_64_0, FA_64_1, FA_64_2, FA_67_0, FA_67_1, FA_67_2, FA_67_3, FA_75_0, FA_75_1, FA_75_2, FA_75_3, FA_82_0, FA_82_1, FA_82_2, FA_96_0, FA_96_1, FA_96_2, FA_123_0, FA_123_1, FA_123_2, LEN_34, LEN_38, LEN_51, LEN_56, LEN_60, LEN_65, LEN_83, LEN_88, Q1]
  refine xJoin_of (fun ls w' => ∃ a : Int, ls = [.int .i64 a] ∧ TT w w' p q Q L L (encK x)) ?_ ?_
  · refine xJoin_of (fun ls w' => ∃ b : Bool, ls = [.bool b] ∧ w5 = w') ?_ ?_
    · simp only [xP_nil, xP_pick, xP_func, xP_not, xP_add, xP_sub, xP_mul, xP_lss, xP_leq, xP_gtr, xP_geq, xP_max2, xP_min2, xR_eql, xR_neq, Nat.zero_add, Nat.add_zero, Nat.reduceAdd, List.getD_cons_zero, List.getD_cons_succ, xIf_true, xIf_false, FA_40_0, FA_40_1, FA_64_0, FA_64_1, FA_64_2, FA_67_0, FA_67_1, FA_67_2, FA_67_3, FA_75_0, FA_75_1, FA_75_2, FA_75_3, FA_82_0, FA_82_1, FA_82_2, FA_96_0, FA_96_1, FA_96_2, FA_123_0, FA_123_1, FA_123_2, LEN_34, LEN_38, LEN_51, LEN_56, LEN_60, LEN_65, LEN_83, LEN_88, Q3, Q0, xIf_bool]
      exact ⟨fun _ => ⟨_, rfl, trivial⟩, fun _ => ⟨_, rfl, trivial⟩⟩
    rintro _ _ _ ⟨b, rfl, rfl⟩
    simp only [List.getD_cons_zero, xIf_bool]
    refine ⟨fun _ => ?_, fun _ => ⟨_, rfl, ht5⟩⟩
    obtain ⟨hv, last, c1, c2⟩ := ht5.ref
    have hd := kept_drew [] w5
    obtain ⟨D0, D1, D2, D3⟩ := ldRL (c1.kept hd (by simp))
    obtain ⟨E0, E1, E2, E3⟩ := ldQ (ht5.next hd).blk
    simp only [xP_nil, xP_pick, xP_func, xP_not, xP_add, xP_sub, xP_mul, xP_lss, xP_leq, xP_gtr, xP_geq, xP_max2, xP_min2, xR_eql, xR_neq, Nat.zero_add, Nat.add_zero, Nat.reduceAdd, List.getD_cons_zero, List.getD_cons_succ, xIf_true, xIf_false, FA_40_0, FA_40_1, FA_64_0, FA_64_1, FA_64_2, FA_67_0, FA_67_1, FA_67_2, FA_67_3, FA_75_0, FA_75_1, FA_75_2, FA_75_3, FA_82_0, FA_82_1, FA_82_2, FA_96_0, FA_96_1, FA_96_2, FA_123_0, FA_123_1, FA_123_2, LEN_34, LEN_38, LEN_51, LEN_56, LEN_60, LEN_65, LEN_83, LEN_88, D2, E1]
    refine xE_call CF_21 (within_ok (by omega) (by omega) (by omega)) ?_
    rintro _ _ ⟨rfl, rfl⟩
    refine (still1 ONE_3 ((c1.kept hd (by simp)).cell (o := 2))).2 ?_
    simp only [xP_nil, xP_pick, xP_func, xP_not, xP_add, xP_sub, xP_mul, xP_lss, xP_leq, xP_gtr, xP_geq, xP_max2, xP_min2, xR_eql, xR_neq, Nat.zero_add, Nat.add_zero, Nat.reduceAdd, List.getD_cons_zero, List.getD_cons_succ, xIf_true, xIf_false, FA_40_0, FA_40_1, FA_64_0, FA_64_1, FA_64_2, FA_67_0, FA_67_1, FA_67_2, FA_67_3, FA_75_0, FA_75_1, FA_75_2, FA_75_3, FA_82_0, FA_82_1, FA_82_2, FA_96_0, FA_96_1, FA_96_2, FA_123_0, FA_123_1, FA_123_2, LEN_34, LEN_38, LEN_51, LEN_56, LEN_60, LEN_65, LEN_83, LEN_88]
    exact ⟨_, rfl, ht5.next hd⟩
  rintro _ _ w6 ⟨a, rfl, ht6⟩
  simp only [List.getD_cons_zero]
  refine xJoin_of (fun ls w' => ∃ a : Int, ls = [.int .i64 a] ∧ TT w w' p q Q L L (encK x)) ?_ ?_
  · obtain ⟨Q0, Q1, Q2, Q3⟩ := ldQ ht6.blk
    refine xJoin_of (fun ls w' => ∃ b : Bool, ls = [.bool b] ∧ w6 = w') ?_ ?_
    · simp only [xP_nil, xP_pick, xP_func, xP_not, xP_add, xP_sub, xP_mul, xP_lss, xP_leq, xP_gtr, xP_geq, xP_max2, xP_min2, xR_eql, xR_neq, Nat.zero_add, Nat.add_zero, Nat.reduceAdd, List.getD_cons_zero, List.getD_cons_succ, xIf_true, xIf_false, FA_40_0, FA_40_1, FA_64_0, FA_64_1, FA_64_2, FA_67_0, FA_67_1, FA_67_2, FA_67_3, FA_75_0, FA_75_1, FA_75_2, FA_75_3, FA_82_0, FA_82_1, FA_82_2, FA_96_0, FA_96_1, FA_96_2, FA_123_0, FA_123_1, FA_123_2, LEN_34, LEN_38, LEN_51, LEN_56, LEN_60, LEN_65, LEN_83, LEN_88, Q3, Q0, xIf_bool]
      exact ⟨fun _ => ⟨fun _ => ⟨_, rfl, trivial⟩, fun _ => ⟨_, rfl, trivial⟩⟩, fun _ => ⟨_, rfl, trivial⟩⟩
    rintro _ _ _ ⟨b, rfl, rfl⟩
    simp only [List.getD_cons_zero, xIf_bool]
    refine ⟨fun _ => ?_, fun _ => ⟨_, rfl, ht6⟩⟩
    simp only [xP_nil, xP_pick, xP_func, xP_not, xP_add, xP_sub, xP_mul, xP_lss, xP_leq, xP_gtr, xP_geq, xP_max2, xP_min2, xR_eql, xR_neq, Nat.zero_add, Nat.add_zero, Nat.reduceAdd, List.getD_cons_zero, List.getD_cons_succ, xIf_true, xIf_false, FA_40_0, FA_40_1, FA_64_0, FA_64_1, FA_64_2, FA_67_0, FA_67_1, FA_67_2, FA_67_3, FA_75_0, FA_75_1, FA_75_2, FA_75_3, FA_82_0, FA_82_1, FA_82_2, FA_96_0, FA_96_1, FA_96_2, FA_123_0, FA_123_1, FA_123_2, LEN_34, LEN_38, LEN_51, LEN_56, LEN_60, LEN_65, LEN_83, LEN_88, Q1]
    refine xE_call CF_21 (within_ok (by omega) (by omega) (by omega)) ?_
    rintro _ _ ⟨rfl, rfl⟩
    exact ⟨_, rfl, ht6⟩
  rintro _ _ w7 ⟨o, rfl, ht7⟩
  simp only [List.getD_cons_zero]
  clear ht5 ht6 Q0 Q1 Q2 Q3
  have hg7 := hgl.kept0 ht7.k0
  obtain ⟨Q0, Q1, Q2, Q3⟩ := ldQ ht7.blk
  refine xJoin_of (fun ls w' => ∃ L', ls = [.bool true] ∧ L'.Ok ∧ L'.hs.length ≤ i + 1 ∧ TT w w' p q Q L' L' (encK x)) ?_ ?_
  · simp only [xP_nil, xP_pick, xP_func, xP_not, xP_add, xP_sub, xP_mul, xP_lss, xP_leq, xP_gtr, xP_geq, xP_max2, xP_min2, xR_eql, xR_neq, Nat.zero_add, Nat.add_zero, Nat.reduceAdd, List.getD_cons_zero, List.getD_cons_succ, xIf_true, xIf_false, FA_40_0, FA_40_1, FA_64_0, FA_64_1, FA_64_2, FA_67_0, FA_67_1, FA_67_2, FA_67_3, FA_75_0, FA_75_1, FA_75_2, FA_75_3, FA_82_0, FA_82_1, FA_82_2, FA_96_0, FA_96_1, FA_96_2, FA_123_0, FA_123_1, FA_123_2, LEN_34, LEN_38, LEN_51, LEN_56, LEN_60, LEN_65, LEN_83, LEN_88, Q0, xIf_dec]
    refine ⟨fun h1 => ?_, fun h1 => ⟨fun h2 => ?_, fun h2 => ⟨fun h3 => ?_, fun h3 => ⟨fun h4 => ?_, fun h4 => ⟨fun h5 => ?_, fun h5 => ⟨fun h6 => ?_, fun h6 => ⟨L, trivial, hok, by omega, ht7⟩⟩⟩⟩⟩⟩⟩
    · simp only [Q2]
      refine (xP_rem (by omega)).2 ?_
      refine addT ht7 hok (by omega) fun w8 h8 => ?_
      have hok8 := Lg.add_ok hok o x.b i ((i : Int).tmod 3)
      have hlen8 := Lg.add_len L o x.b i ((i : Int).tmod 3)
      obtain ⟨R0, R1, R2, R3⟩ := ldQ h8.blk
      simp only [xP_ex0, xP_ex1, R2]
      refine (xP_rem (by omega)).2 ?_
      refine raddT h8 hok (by omega) fun w9 h9 => ?_
      simp only [xP_ex0, xP_ex1, xR_eql, decide_true, xIf_true]
      refine kindOp (op := opPA) (hgl.kept0 h9.k0) fun w10 hk10 => ?_
      simp only [xR_eql, decide_true]
      exact ⟨_, trivial, hok8, by omega, h9.next hk10⟩
    · refine fromLS ht7.ps hok (by omega) fun fv w8 hf8 hk8 _ => ?_
      have h8 := ht7.next hk8
      simp only [xP_ex0, xP_ex1]
      refine rfromT h8 hok (by omega) fun gv w9 hf9 hk9 => ?_
      have h9 := h8.next hk9
      simp only [xP_ex0, xP_ex1]
      have hfl : (L.from o).length ≤ L.hs.length := by
        unfold Lg.from Lg.seek
        split
        · rw [List.length_drop]; omega
        · simp
      refine xE_call CF_35 (sameH_ok (hf8.kept0 hk9) hf9 (by omega)) ?_
      rintro _ w10 ⟨rfl, hk10⟩
      have h10 := h9.next hk10
      simp only [decide_true, xIf_true]
      refine kindOp (op := opPF) (hgl.kept0 h10.k0) fun w11 hk11 => ?_
      simp only [xR_eql, decide_true]
      exact ⟨L, trivial, hok, by omega, h10.next hk11⟩
    · refine trimT ht7 hok (by omega) fun w8 h8 => ?_
      have hok8 := Lg.trim_ok hok o
      have hlen8 := Lg.trim_len L o
      refine kindOp (op := opPT) (hgl.kept0 h8.k0) fun w9 hk9 => ?_
      refine rtrimT (h8.next hk9) hok (by omega) fun w10 h10 => ?_
      simp only [xR_eql, decide_true]
      exact ⟨_, trivial, hok8, by omega, h10⟩
    · refine keepT ht7 hok (by omega) fun w8 h8 => ?_
      have hok8 := dropN_ok hok (L.keepN o)
      have hlen8 := Lg.dropN_len L (L.keepN o)
      refine rkeepT h8 hok (by omega) fun w9 h9 => ?_
      simp only [xR_eql, decide_true]
      exact ⟨_, trivial, hok8, by omega, h9⟩
    · refine olderT ht7 hok (by omega) fun w8 h8 => ?_
      have hok8 := dropN_ok hok (L.olderN o)
      have hlen8 := Lg.dropN_len L (L.olderN o)
      refine rolderT h8 hok (by omega) fun w9 h9 => ?_
      simp only [xR_eql, decide_true]
      exact ⟨_, trivial, hok8, by omega, h9⟩
    · obtain ⟨hv, last, c1, c2⟩ := ht7.ref
      obtain ⟨D0, D1, D2, D3⟩ := ldRL c1
      simp only [xP_nil, xP_pick, xP_func, xP_not, xP_add, xP_sub, xP_mul, xP_lss, xP_leq, xP_gtr, xP_geq, xP_max2, xP_min2, xR_eql, xR_neq, Nat.zero_add, Nat.add_zero, Nat.reduceAdd, List.getD_cons_zero, List.getD_cons_succ, xIf_true, xIf_false, FA_40_0, FA_40_1, FA_64_0, FA_64_1, FA_64_2, FA_67_0, FA_67_1, FA_67_2, FA_67_3, FA_75_0, FA_75_1, FA_75_2, FA_75_3, FA_82_0, FA_82_1, FA_82_2, FA_96_0, FA_96_1, FA_96_2, FA_123_0, FA_123_1, FA_123_2, LEN_34, LEN_38, LEN_51, LEN_56, LEN_60, LEN_65, LEN_83, LEN_88, D2]
      refine xJoin_of (fun ls w' => ls = [.int .i64 (L.at o)] ∧ Kept [] w7 w') ?_ ?_
      · simp only [xP_nil, xP_pick, xP_func, xP_not, xP_add, xP_sub, xP_mul, xP_lss, xP_leq, xP_gtr, xP_geq, xP_max2, xP_min2, xR_eql, xR_neq, Nat.zero_add, Nat.add_zero, Nat.reduceAdd, List.getD_cons_zero, List.getD_cons_succ, xIf_true, xIf_false, FA_40_0, FA_40_1, FA_64_0, FA_64_1, FA_64_2, FA_67_0, FA_67_1, FA_67_2, FA_67_3, FA_75_0, FA_75_1, FA_75_2, FA_75_3, FA_82_0, FA_82_1, FA_82_2, FA_96_0, FA_96_1, FA_96_2, FA_123_0, FA_123_1, FA_123_2, LEN_34, LEN_38, LEN_51, LEN_56, LEN_60, LEN_65, LEN_83, LEN_88, D0]
        refine xE_call CF_42 (rwhen_ok (t := o) c2 (by omega)) ?_
        rintro _ w8 ⟨rfl, hk8⟩
        obtain ⟨E0, E1, E2, E3⟩ := ldRL (c1.kept hk8 (by simp))
        obtain ⟨ha, hc, rfl, r1, r2⟩ := c2
        have c2 : SlT w7 encH (.slice ha L.hs.length hc) L.hs := ⟨ha, hc, rfl, r1, r2⟩
        have eol : (L.hs.findIdx fun h => decide (o ≤ h.time)) = L.olderN o := rfl
        rw [eol]
        simp only [xP_nil, xP_pick, xP_func, xP_not, xP_add, xP_sub, xP_mul, xP_lss, xP_leq, xP_gtr, xP_geq, xP_max2, xP_min2, xR_eql, xR_neq, Nat.zero_add, Nat.add_zero, Nat.reduceAdd, List.getD_cons_zero, List.getD_cons_succ, xIf_true, xIf_false, FA_40_0, FA_40_1, FA_64_0, FA_64_1, FA_64_2, FA_67_0, FA_67_1, FA_67_2, FA_67_3, FA_75_0, FA_75_1, FA_75_2, FA_75_3, FA_82_0, FA_82_1, FA_82_2, FA_96_0, FA_96_1, FA_96_2, FA_123_0, FA_123_1, FA_123_2, LEN_34, LEN_38, LEN_51, LEN_56, LEN_60, LEN_65, LEN_83, LEN_88, E0, xIf_dec]
        refine ⟨fun hlt => ?_, fun hge => ⟨?_, hk8⟩⟩
        · have hlt : L.olderN o < L.hs.length := by omega
          have hd := kept_drew [] w8
          obtain ⟨G0, G1, G2, G3⟩ := ldRL ((c1.kept hk8 (by simp)).kept hd (by simp))
          simp only [G0, G1]
          refine rowHd.fldA c2 (hk8.then hd (by simp)) hlt (show fieldB Tryd.prog 64 0 0 = true by kernel_rfl) ONE_3 (u := .int .i64 (L.hs[L.olderN o]).base) rfl fun A hA => ?_
          simp only [xP_nil, xP_pick, xP_func, xP_not, xP_add, xP_sub, xP_mul, xP_lss, xP_leq, xP_gtr, xP_geq, xP_max2, xP_min2, xR_eql, xR_neq, Nat.zero_add, Nat.add_zero, Nat.reduceAdd, List.getD_cons_zero, List.getD_cons_succ, xIf_true, xIf_false, FA_40_0, FA_40_1, FA_64_0, FA_64_1, FA_64_2, FA_67_0, FA_67_1, FA_67_2, FA_67_3, FA_75_0, FA_75_1, FA_75_2, FA_75_3, FA_82_0, FA_82_1, FA_82_2, FA_96_0, FA_96_1, FA_96_2, FA_123_0, FA_123_1, FA_123_2, LEN_34, LEN_38, LEN_51, LEN_56, LEN_60, LEN_65, LEN_83, LEN_88]
          refine ⟨?_, hk8.then hd (by simp)⟩
          unfold Lg.at
          rw [List.getElem?_eq_getElem hlt]
        · unfold Lg.at
          rw [List.getElem?_eq_none (by omega)]
      rintro _ _ w8 ⟨rfl, hk8⟩
      have h8 := ht7.next hk8
      simp only [List.getD_cons_zero]
      refine atLS h8.ps (by omega) fun w9 hk9 => ?_
      simp only [xR_eql, decide_true]
      exact ⟨L, trivial, hok, by omega, h8.next hk9⟩
  rintro _ _ w8 ⟨L', rfl, hok', hlen', h8⟩
  simp only [List.getD_cons_zero]
  have hd := kept_drew [] w8
  have h8d := h8.next hd
  refine xJoin_of (fun ls w' => ls = [.bool false] ∧ Kept [] w8 w') ?_ ?_
  · simp only [xP_not, Bool.not_true, xIf_false]
    obtain ⟨hv, last, c1, c2⟩ := h8d.ref
    obtain ⟨D0, D1, D2, D3⟩ := ldRL c1
    simp only [xP_nil, xP_pick, xP_func, xP_not, xP_add, xP_sub, xP_mul, xP_lss, xP_leq, xP_gtr, xP_geq, xP_max2, xP_min2, xR_eql, xR_neq, Nat.zero_add, Nat.add_zero, Nat.reduceAdd, List.getD_cons_zero, List.getD_cons_succ, xIf_true, xIf_false, FA_40_0, FA_40_1, FA_64_0, FA_64_1, FA_64_2, FA_67_0, FA_67_1, FA_67_2, FA_67_3, FA_75_0, FA_75_1, FA_75_2, FA_75_3, FA_82_0, FA_82_1, FA_82_2, FA_96_0, FA_96_1, FA_96_2, FA_123_0, FA_123_1, FA_123_2, LEN_34, LEN_38, LEN_51, LEN_56, LEN_60, LEN_65, LEN_83, LEN_88, D1]
    refine startLS h8d.ps ?_
    refine (still1 ONE_3 (c1.cell (o := 1))).2 ?_
    simp only [xR_neq, ne_eq, not_true_eq_false, decide_false, xIf_false, D2]
    refine nextLS h8d.ps ?_
    refine (still1 ONE_3 (c1.cell (o := 2))).2 ?_
    simp only [xR_neq, ne_eq, not_true_eq_false, decide_false, xIf_false, D0]
    obtain ⟨ha, hc, rfl, r1, r2⟩ := c2
    simp only [xP_nil, xP_pick, xP_func, xP_not, xP_add, xP_sub, xP_mul, xP_lss, xP_leq, xP_gtr, xP_geq, xP_max2, xP_min2, xR_eql, xR_neq, Nat.zero_add, Nat.add_zero, Nat.reduceAdd, List.getD_cons_zero, List.getD_cons_succ, xIf_true, xIf_false, FA_40_0, FA_40_1, FA_64_0, FA_64_1, FA_64_2, FA_67_0, FA_67_1, FA_67_2, FA_67_3, FA_75_0, FA_75_1, FA_75_2, FA_75_3, FA_82_0, FA_82_1, FA_82_2, FA_96_0, FA_96_1, FA_96_2, FA_123_0, FA_123_1, FA_123_2, LEN_34, LEN_38, LEN_51, LEN_56, LEN_60, LEN_65, LEN_83, LEN_88]
    refine lenLS h8d.ps fun w9 hk9 => ?_
    refine (still1 ONE_51 ((c1.kept hk9 (by simp)).cell (o := 0))).2 ?_
    simp only [xR_neq, ne_eq, not_true_eq_false, decide_false]
    exact ⟨trivial, hd.then hk9 (by simp)⟩
  rintro _ _ w9 ⟨rfl, hk9⟩
  have h9 := h8.next hk9
  simp only [List.getD_cons_zero, xIf_false]
  try simp only [xP_nil, xP_pick, xP_func, xP_not, xP_add, xP_sub, xP_mul, xP_lss, xP_leq, xP_gtr, xP_geq, xP_max2, xP_min2, xR_eql, xR_neq, Nat.zero_add, Nat.add_zero, Nat.reduceAdd, List.getD_cons_zero, List.getD_cons_succ, xIf_true, xIf_false, FA_40_0, FA_40_1, FA_64_0, FA_64_1, FA_64_2, FA_67_0, FA_67_1, FA_67_2, FA_67_3, FA_75_0, FA_75_1, FA_75_2, FA_75_3, FA_82_0, FA_82_1, FA_82_2, FA_96_0, FA_96_1, FA_96_2, FA_123_0, FA_123_1, FA_123_2, LEN_34, LEN_38, LEN_51, LEN_56, LEN_60, LEN_65, LEN_83, LEN_88]
  rw [wrap64 (by omega) (by omega)]
  obtain ⟨F', G', e1, e2, e3, e4, e5, e6, e7, e8, e9⟩ := h9
  exact ⟨⟨i + 1, L', F', G', rfl, by omega, by omega, hok', by omega, e1, e2, e3, e6, e7, e9⟩, by omega⟩
end Go.Proofs.YtjajjblppogfoaaDoor
