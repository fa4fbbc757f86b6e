import Derived.Test.YthmjjdfjegjfeaaDoorXkDisk8
namespace Go.Proofs.YthmjjdfjegjfeaaDoor
set_option linter.unusedSimpArgs false
set_option linter.unusedVariables false
set_option maxRecDepth 100000
attribute [local irreducible] Go.X.xE
open Go Go.X Go.RowKit

/-! ## DiskPlays -/
theorem xR_pnilNe9 {P : Program} {T : TypeId} {w : World} {K : Value → Prop} {p : Option Addr} {c : Bool} (h : ptrB P T) : xR P (sEq .neq T c (.pointer p) (.pointer none)) w K ↔ K (.bool p.isSome) := by
  have e0 : eqGuard .neq T (bif c then .const undef else .tmp 0) (.tmp 0) (.pointer p) (.pointer none) = pure () := by cases c <;> rfl
  refine xR_of ?_
  unfold sEq
  refine run_sB P _ w ?_
  rw [e0]
  simp only [pure_bind]
  unfold ptrB at h
  cases p with
  | none =>
    have e : ∀ d : Nat, (Op.equalIn (d + 1) T (.pointer none) (.pointer none)).run P w = .ok true w := fun d => by
      simp [Op.equalIn, run_underlying h]
    have := e 9999
    simp [binOp, Op.equal, Op.maxDepth, this]
  | some a =>
    have e : ∀ d : Nat, (Op.equalIn (d + 1) T (.pointer (some a)) (.pointer none)).run P w = .ok false w := fun d => by
      simp [Op.equalIn, run_underlying h]
    have := e 9999
    simp [binOp, Op.equal, Op.maxDepth, this]
/-- The disk, the document's disk, and blocks beside both. -/
def TD (w0 w : World) (p q : Nat) (D E : Dk) (X : List Nat) : Prop := ∃ F G, DkI 71 w p D F ∧ RI w q E G ∧ (∀ g ∈ F, g ∉ G) ∧ (∀ g ∈ F, g ∉ X) ∧ (∀ g ∈ G, g ∉ X) ∧ (∀ g ∈ X, g < w.heap.size) ∧ (∀ g ∈ F, w0.heap.size ≤ g) ∧ (∀ g ∈ G, w0.heap.size ≤ g) ∧ Kept [] w0 w
section
variable {w0 w w' : World} {p q : Nat} {D E : Dk} {X X' M : List Nat} {K : Value → World → Prop}
theorem TD.k0 (h : TD w0 w p q D E X) : Kept [] w0 w := by obtain ⟨F, G, _, _, _, _, _, _, _, _, h⟩ := h; exact h
theorem TD.lt (h : TD w0 w p q D E X) : ∀ g ∈ X, g < w.heap.size := by obtain ⟨F, G, _, _, _, _, _, h, _⟩ := h; exact h
theorem TD.dx (h : TD w0 w p q D E X) : DX w0 w p D X := by obtain ⟨F, G, h1, _, _, h2, _, h3, h4, _, h5⟩ := h; exact ⟨F, h1, h4, h2, h3, h5⟩
theorem TD.ref (h : TD w0 w p q D E X) : ∃ G, RI w q E G := by obtain ⟨F, G, _, h, _⟩ := h; exact ⟨G, h⟩
theorem TD.next (h : TD w0 w p q D E X) (hk : Kept [] w w') : TD w0 w' p q D E X := by
  obtain ⟨F, G, h1, h2, h3, h4, h5, h6, h7, h8, h9⟩ := h
  exact ⟨F, G, h1.kept0 hk, DkI.kept0 h2 hk, h3, h4, h5, fun g hg => Nat.lt_of_lt_of_le (h6 g hg) hk.size, h7, h8, h9.then hk (by simp)⟩
theorem TD.own (h : TD w0 w p q D E X) (hk : Kept M w w') (hM : ∀ g ∈ M, g ∈ X) (hM0 : ∀ g ∈ M, w0.heap.size ≤ g) (hX : ∀ g ∈ X', (g ∈ X ∨ w.heap.size ≤ g) ∧ g < w'.heap.size) : TD w0 w' p q D E X' := by
  obtain ⟨F, G, h1, h2, h3, h4, h5, h6, h7, h8, h9⟩ := h
  have l1 := h1.lt
  have l2 := DkI.lt h2
  exact ⟨F, G, h1.kept hk (fun g hg hm => h4 g hg (hM g hm)), DkI.kept h2 hk (fun g hg hm => h5 g hg (hM g hm)), h3, fun g hg hx => (hX g hx).1.elim (h4 g hg) (fun hh => by have := l1 g hg; omega), fun g hg hx => (hX g hx).1.elim (h5 g hg) (fun hh => by have := l2 g hg; omega), fun g hg => (hX g hg).2, h7, h8, h9.then hk (fun g hg => .inr (hM0 g hg))⟩
theorem TD.one {F F' G : List Nat} {D' : Dk} (h1 : DkI 71 w p D F) (h2 : RI w q E G) (h3 : ∀ g ∈ F, g ∉ G) (h4 : ∀ g ∈ F, g ∉ X) (h5 : ∀ g ∈ G, g ∉ X) (h6 : ∀ g ∈ X, g < w.heap.size) (h7 : ∀ g ∈ F, w0.heap.size ≤ g) (h8 : ∀ g ∈ G, w0.heap.size ≤ g) (h9 : Kept [] w0 w)
    (hL : DkI 71 w' p D' F') (hk : Kept F w w') (hF : ∀ g ∈ F', g ∈ F ∨ w.heap.size ≤ g) : TD w0 w' p q D' E X := by
  have hz := h9.size
  have hlt := DkI.lt h2
  exact ⟨F', G, hL, DkI.kept h2 hk (fun g hg hm => h3 g hm hg), fun g hg hm => (hF g hg).elim (fun h => h3 g h hm) (fun h => by have := hlt g hm; omega), fun g hg hx => (hF g hg).elim (fun h => h4 g h hx) (fun h => by have := h6 g hx; omega), h5, fun g hg => Nat.lt_of_lt_of_le (h6 g hg) hk.size, fun g hg => (hF g hg).elim (h7 g) (fun h => by omega), h8, h9.then hk (fun g hg => .inr (h7 g hg))⟩
theorem TD.two {F G G' : List Nat} {E' : Dk} (h1 : DkI 71 w p D F) (h2 : RI w q E G) (h3 : ∀ g ∈ F, g ∉ G) (h4 : ∀ g ∈ F, g ∉ X) (h5 : ∀ g ∈ G, g ∉ X) (h6 : ∀ g ∈ X, g < w.heap.size) (h7 : ∀ g ∈ F, w0.heap.size ≤ g) (h8 : ∀ g ∈ G, w0.heap.size ≤ g) (h9 : Kept [] w0 w)
    (hM : RI w' q E' G') (hk : Kept G w w') (hG : ∀ g ∈ G', g ∈ G ∨ w.heap.size ≤ g) : TD w0 w' p q D E' X := by
  have hz := h9.size
  have hlt := h1.lt
  exact ⟨F, G', h1.kept hk (fun g hg hm => h3 g hg hm), hM, fun g hg hm => (hG g hm).elim (fun h => h3 g hg h) (fun h => by have := hlt g hg; omega), h4, fun g hg hx => (hG g hg).elim (fun h => h5 g h hx) (fun h => by have := h6 g hx; omega), fun g hg => Nat.lt_of_lt_of_le (h6 g hg) hk.size, h7, fun g hg => (hG g hg).elim (h8 g) (fun h => by omega), h9.then hk (fun g hg => .inr (h8 g hg))⟩
theorem writeTD {i : Int} {bv : Value} {b : List UInt8} (h : TD w0 w p q D E X) (hb : SlT w encB bv b) (k : ∀ w' M, TD w0 w' p q (if D.refK i (decide (b.length ≠ 128)) = 0 then D.write i.toNat b else D) E X → Kept M w w' → (∀ g ∈ M, g ∉ X) → K (optV (dEr opDW i (D.refK i (decide (b.length ≠ 128))))) w') :
    xE Tryd.prog (sCall 10 #[.pointer (some ⟨p, 0, none⟩), .int .i64 i, bv]) w K := by
  obtain ⟨F, G, h1, h2, h3, h4, h5, h6, h7, h8, h9⟩ := h
  refine xE_call CF_10 (write_ok h1 hb) ?_
  rintro _ w' ⟨F', rfl, hL, hk, hF⟩
  exact k w' F (TD.one h1 h2 h3 h4 h5 h6 h7 h8 h9 hL hk hF) hk h4
theorem rwriteTD {i : Int} {bv : Value} {b : List UInt8} (h : TD w0 w p q D E X) (hb : SlT w encB bv b) (k : ∀ w' M, TD w0 w' p q D (if E.refK i (decide (b.length ≠ 128)) = 0 then E.write i.toNat b else E) X → Kept M w w' → (∀ g ∈ M, g ∉ X) → K (.int .i64 (E.refK i (decide (b.length ≠ 128)))) w') :
    xE Tryd.prog (sCall 25 #[.pointer (some ⟨q, 0, none⟩), .int .i64 i, bv]) w K := by
  obtain ⟨F, G, h1, h2, h3, h4, h5, h6, h7, h8, h9⟩ := h
  refine xE_call CF_25 (rwriteD_ok h2 hb) ?_
  rintro _ w' ⟨F', rfl, hL, hk, hF⟩
  exact k w' G (TD.two h1 h2 h3 h4 h5 h6 h7 h8 h9 hL hk hF) hk h5
theorem flushTD (h : TD w0 w p q D E X) (k : ∀ w' M, TD w0 w' p q (if D.dead then D else D.flush) E X → Kept M w w' → (∀ g ∈ M, g ∉ X) → K (optV (dEr opDF 0 (D.refK 0 false))) w') :
    xE Tryd.prog (sCall 19 #[.pointer (some ⟨p, 0, none⟩)]) w K := by
  obtain ⟨F, G, h1, h2, h3, h4, h5, h6, h7, h8, h9⟩ := h
  refine xE_call CF_19 (flush_ok h1) ?_
  rintro _ w' ⟨F', rfl, hL, hk, hF⟩
  exact k w' F (TD.one h1 h2 h3 h4 h5 h6 h7 h8 h9 hL hk hF) hk h4
theorem rflushTD (h : TD w0 w p q D E X) (k : ∀ w' M, TD w0 w' p q D (if E.dead then E else E.flush) X → Kept M w w' → (∀ g ∈ M, g ∉ X) → K (.int .i64 (E.refK 0 false)) w') :
    xE Tryd.prog (sCall 27 #[.pointer (some ⟨q, 0, none⟩)]) w K := by
  obtain ⟨F, G, h1, h2, h3, h4, h5, h6, h7, h8, h9⟩ := h
  refine xE_call CF_27 (rflushD_ok h2) ?_
  rintro _ w' ⟨F', rfl, hL, hk, hF⟩
  exact k w' G (TD.two h1 h2 h3 h4 h5 h6 h7 h8 h9 hL hk hF) hk h5
theorem crashTD {bits : Int} (h : TD w0 w p q D E X) (k : ∀ v w' M, TD w0 w' p q (D.crash bits) E X → Kept M w w' → (∀ g ∈ M, g ∉ X) → K v w') :
    xE Tryd.prog (sCall 12 #[.pointer (some ⟨p, 0, none⟩), .int .u64 bits]) w K := by
  obtain ⟨F, G, h1, h2, h3, h4, h5, h6, h7, h8, h9⟩ := h
  refine xE_call CF_12 (crash_ok h1) ?_
  rintro v w' ⟨F', hL, hk, hF⟩
  exact k v w' F (TD.one h1 h2 h3 h4 h5 h6 h7 h8 h9 hL hk hF) hk h4
theorem rcrashTD {bits : Int} (h : TD w0 w p q D E X) (k : ∀ v w' M, TD w0 w' p q D (E.crash bits) X → Kept M w w' → (∀ g ∈ M, g ∉ X) → K v w') :
    xE Tryd.prog (sCall 28 #[.pointer (some ⟨q, 0, none⟩), .int .u64 bits]) w K := by
  obtain ⟨F, G, h1, h2, h3, h4, h5, h6, h7, h8, h9⟩ := h
  refine xE_call CF_28 (rcrashD_ok h2) ?_
  rintro v w' ⟨F', hL, hk, hF⟩
  exact k v w' G (TD.two h1 h2 h3 h4 h5 h6 h7 h8 h9 hL hk hF) hk h5
theorem rotTD {i a c : Int} (h : TD w0 w p q D E X) (k : ∀ w' M, TD w0 w' p q (if D.rotBad i a c then D else D.rotd i.toNat a.toNat c) E X → Kept M w w' → (∀ g ∈ M, g ∉ X) → K (.bool (!D.rotBad i a c)) w') :
    xE Tryd.prog (sCall 14 #[.pointer (some ⟨p, 0, none⟩), .int .i64 i, .int .i64 a, .int .u32 c]) w K := by
  obtain ⟨F, G, h1, h2, h3, h4, h5, h6, h7, h8, h9⟩ := h
  refine xE_call CF_14 (rot_ok h1) ?_
  rintro _ w' ⟨F', rfl, hL, hk, hF⟩
  exact k w' F (TD.one h1 h2 h3 h4 h5 h6 h7 h8 h9 hL hk hF) hk h4
theorem rrotTD {i a c : Int} (h : TD w0 w p q D E X) (k : ∀ w' M, TD w0 w' p q D (if E.rotBad i a c then E else E.rotd i.toNat a.toNat c) X → Kept M w w' → (∀ g ∈ M, g ∉ X) → K (.bool (!E.rotBad i a c)) w') :
    xE Tryd.prog (sCall 29 #[.pointer (some ⟨q, 0, none⟩), .int .i64 i, .int .i64 a, .int .u32 c]) w K := by
  obtain ⟨F, G, h1, h2, h3, h4, h5, h6, h7, h8, h9⟩ := h
  refine xE_call CF_29 (rrotD_ok h2) ?_
  rintro _ w' ⟨F', rfl, hL, hk, hF⟩
  exact k w' G (TD.two h1 h2 h3 h4 h5 h6 h7 h8 h9 hL hk hF) hk h5
theorem dieTD (h : TD w0 w p q D E X) (k : ∀ v w' M, TD w0 w' p q (D.blank true) E X → Kept M w w' → (∀ g ∈ M, g ∉ X) → K v w') :
    xE Tryd.prog (sCall 15 #[.pointer (some ⟨p, 0, none⟩)]) w K := by
  obtain ⟨F, G, h1, h2, h3, h4, h5, h6, h7, h8, h9⟩ := h
  refine xE_call CF_15 (die_ok h1) ?_
  rintro v w' ⟨F', hL, hk, hF⟩
  exact k v w' F (TD.one h1 h2 h3 h4 h5 h6 h7 h8 h9 hL hk hF) hk h4
theorem rdieTD (h : TD w0 w p q D E X) (k : ∀ v w' M, TD w0 w' p q D (E.blank true) X → Kept M w w' → (∀ g ∈ M, g ∉ X) → K v w') :
    xE Tryd.prog (sCall 30 #[.pointer (some ⟨q, 0, none⟩)]) w K := by
  obtain ⟨F, G, h1, h2, h3, h4, h5, h6, h7, h8, h9⟩ := h
  refine xE_call CF_30 (rdieD_ok h2) ?_
  rintro v w' ⟨F', hL, hk, hF⟩
  exact k v w' G (TD.two h1 h2 h3 h4 h5 h6 h7 h8 h9 hL hk hF) hk h5
theorem replaceTD (h : TD w0 w p q D E X) (k : ∀ v w' M, TD w0 w' p q (D.blank false) E X → Kept M w w' → (∀ g ∈ M, g ∉ X) → K v w') :
    xE Tryd.prog (sCall 22 #[.pointer (some ⟨p, 0, none⟩)]) w K := by
  obtain ⟨F, G, h1, h2, h3, h4, h5, h6, h7, h8, h9⟩ := h
  refine xE_call CF_22 (replace_ok h1) ?_
  rintro v w' ⟨F', hL, hk, hF⟩
  exact k v w' F (TD.one h1 h2 h3 h4 h5 h6 h7 h8 h9 hL hk hF) hk h4
theorem rreplaceTD (h : TD w0 w p q D E X) (k : ∀ v w' M, TD w0 w' p q D (E.blank false) X → Kept M w w' → (∀ g ∈ M, g ∉ X) → K v w') :
    xE Tryd.prog (sCall 31 #[.pointer (some ⟨q, 0, none⟩)]) w K := by
  obtain ⟨F, G, h1, h2, h3, h4, h5, h6, h7, h8, h9⟩ := h
  refine xE_call CF_31 (rreplaceD_ok h2) ?_
  rintro v w' ⟨F', hL, hk, hF⟩
  exact k v w' G (TD.two h1 h2 h3 h4 h5 h6 h7 h8 h9 hL hk hF) hk h5
theorem readTD {i : Int} (h : TD w0 w p q D E X) (k : ∀ v w', TD w0 w' p q D E X → Kept [] w w' → SlT w' encB v (if D.refK i false = 0 then D.read i.toNat else []) → K (.tuple #[v, optV (dEr opDR i (D.refK i false))]) w') :
    xE Tryd.prog (sCall 13 #[.pointer (some ⟨p, 0, none⟩), .int .i64 i]) w K := by
  obtain ⟨F, G, h1, _⟩ := id h
  refine xE_call CF_13 (read_ok h1) ?_
  rintro _ w' ⟨v, rfl, hs, hk, _⟩
  exact k v w' (h.next hk) hk hs
theorem rreadTD {i : Int} (h : TD w0 w p q D E X) (k : ∀ v w', TD w0 w' p q D E X → Kept [] w w' → SlT w' encB v (if E.refK i false = 0 then E.read i.toNat else []) → K (.tuple #[v, .int .i64 (E.refK i false)]) w') :
    xE Tryd.prog (sCall 32 #[.pointer (some ⟨q, 0, none⟩), .int .i64 i]) w K := by
  obtain ⟨F, G, _, h2, _⟩ := id h
  refine xE_call CF_32 (rreadD_ok h2) ?_
  rintro _ w' ⟨v, rfl, hs, hk⟩
  exact k v w' (h.next hk) hk hs
theorem newAsk {x : DA} (k : ∀ w', Blk w' w.heap.size 44 (encA x) → Kept [] w w' → w.heap.size < w'.heap.size → K (.pointer (some ⟨w.heap.size, 0, none⟩)) w') :
    xE Tryd.prog (sAlloc 44) w fun v w1 => xE Tryd.prog (sStore 44 v (.agg (encA x).toArray)) w1 fun _ w2 => K v w2 := by
  refine xE_alloc Z_44 fun w1 hb1 hk1 hz1 => ?_
  refine xE_storeN (l1 := []) (l2 := [.int .i64 0, .int .i64 0, .int .i64 0, .int .u8 0, .int .u64 0, .bool false]) (l3 := []) SZ_44 hb1 rfl rfl rfl (by intro u hu; simp [encA, Value.cells] at hu; rcases hu with rfl | rfl | rfl | rfl | rfl | rfl <;> rfl) fun w2 hb2 hk2 hz2 => ?_
  exact k w2 (by simpa [Value.cells] using hb2) (hk1.trans hk2 (by simp) (by simp)) (by omega)
theorem ldA {x : DA} {Q : Nat} (h : Blk w Q 44 (encA x)) :
    (∀ K, xR Tryd.prog (sLoad 3 (.pointer (some ⟨Q, 0, none⟩))) w K ↔ K (.int .i64 x.kind)) ∧ (∀ K, xR Tryd.prog (sLoad 3 (.pointer (some ⟨Q, 1, none⟩))) w K ↔ K (.int .i64 x.i)) ∧ (∀ K, xR Tryd.prog (sLoad 3 (.pointer (some ⟨Q, 2, none⟩))) w K ↔ K (.int .i64 x.at_)) ∧ (∀ K, xR Tryd.prog (sLoad 5 (.pointer (some ⟨Q, 3, none⟩))) w K ↔ K (.int .u8 x.x.toNat)) ∧ (∀ K, xR Tryd.prog (sLoad 31 (.pointer (some ⟨Q, 4, none⟩))) w K ↔ K (.int .u64 x.bits)) ∧ (∀ K, xR Tryd.prog (sLoad 4 (.pointer (some ⟨Q, 5, none⟩))) w K ↔ K (.bool x.short)) :=
  ⟨fun _ => ld1 ONE_3 (h.cell (o := 0)), fun _ => ld1 ONE_3 (h.cell (o := 1)), fun _ => ld1 ONE_3 (h.cell (o := 2)), fun _ => ld1 ONE_5 (h.cell (o := 3)), fun _ => ld1 ONE_31 (h.cell (o := 4)), fun _ => ld1 ONE_4 (h.cell (o := 5))⟩
end
theorem dplays_ok {sectors : Int} {l : List DA} {v : Value} {w : World} (hgl : Glob w) (hl : SlT w encA v l) :
    Gives Tryd.prog 8 #[.int .i64 sectors, v] w fun u w' => u = .bool true ∧ Kept [] w w' := by
  refine C_stavelaw6_DiskPlays ?_
  unfold S_stavelaw6_DiskPlays
  obtain ⟨la, lc, rfl, hlc, hlr⟩ := hl
  have hl : SlT w encA (.slice la l.length lc) l := ⟨la, lc, rfl, hlc, hlr⟩
  refine xJoin_of (fun ls w' => ∃ n : Int, ls = [.int .i64 n] ∧ n ≤ 12 ∧ w = w') ?_ ?_
  · simp only [xP_gtr, xIf_dec]
    exact ⟨fun h => ⟨12, rfl, by omega, trivial⟩, fun h => ⟨sectors, rfl, by omega, trivial⟩⟩
  rintro _ _ _ ⟨n, rfl, hn12, rfl⟩
  simp only [List.getD_cons_zero]
  refine xE_call CF_9 dnew_ok ?_
  rintro u1 w1 ⟨hk1, h1⟩
  rcases h1 with ⟨hbad, rfl⟩ | ⟨hn1, hn2, p, F, rfl, hD, hF⟩
  · simp only [xP_ex0, xP_ex1]
    refine xE_call CF_23 rnewD_ok ?_
    rintro u2 w2 ⟨hk2, h2⟩
    obtain ⟨_, rfl⟩ := h2.resolve_right (fun h => hbad ⟨h.1, h.2.1⟩)
    have hk02 := hk1.then hk2 (by simp)
    simp only [xP_ex0, xP_ex1]
    refine xJoin_of (fun ls w' => ls = [.bool false] ∧ Kept [] w2 w') ?_ ?_
    · refine (xR_pnil PT_22).2 ((xR_pnil PT_52).2 ((xR_neqBool BOOLG6).2 ?_))
      simp only [Option.isNone_none, beq_self_eq_true, Bool.not_true, xIf_false]
      refine kindD (hgl.kept0 hk02) fun w3 hk3 => ?_
      simp only [xR_neq, ne_eq, not_true_eq_false, decide_false]
      exact ⟨trivial, hk3⟩
    rintro _ _ w3 ⟨rfl, hk3⟩
    have hk03 := hk02.then hk3 (by simp)
    simp only [List.getD_cons_zero, xIf_false]
    refine xLoop_of (fun ls w' => ls = [.int .i64 0] ∧ w3 = w') (fun _ _ => 0) ⟨rfl, rfl⟩ ?_
    rintro _ _ _ ⟨rfl, rfl⟩
    refine xJoin_of (fun ls w' => ls = [.bool false] ∧ w3 = w') ?_ ?_
    · simp only [xP_nil, xP_pick, xP_func, xP_not, xP_add, xP_sub, xP_mul, xP_lss, xP_leq, xP_gtr, xP_geq, xP_max2, xP_min2, xR_eql, xR_neq, Nat.zero_add, Nat.add_zero, Nat.reduceAdd, List.getD_cons_zero, List.getD_cons_succ, xIf_true, xIf_false, FA_44_0, FA_44_1, FA_44_2, FA_44_3, FA_44_4, FA_44_5, FA_63_0, FA_63_1, FA_63_2, FA_63_3, FA_71_0, FA_71_1, FA_71_2, FA_71_3, FA_81_2, LEN_28, LEN_40, LEN_46, LEN_59, LEN_106, xIf_dec]
      refine ⟨fun _ => ⟨fun _ => ?_, fun _ => ⟨trivial, trivial⟩⟩, fun _ => ⟨trivial, trivial⟩⟩
      refine (xR_pnilNe9 PT_22).2 ?_
      exact ⟨rfl, trivial⟩
    rintro _ _ _ ⟨rfl, rfl⟩
    simp only [List.getD_cons_zero, xIf_false]
    exact dRunsG hgl hk03
  simp only [xP_ex0, xP_ex1]
  refine xE_call CF_23 rnewD_ok ?_
  rintro u2 w2 ⟨hk2, h2⟩
  obtain ⟨_, _, q, G, rfl, hE, hG⟩ := h2.resolve_left (fun h => h.1 ⟨hn1, hn2⟩)
  have hk02 := hk1.then hk2 (by simp)
  simp only [xP_ex0, xP_ex1]
  have hz1 := hk1.size
  have hlt1 := hD.lt
  have ht2 : TD w w2 p q (Dk.new n.toNat) (Dk.new n.toNat) [] := ⟨F, G, hD.kept0 hk2, hE, fun g hg hm => by have := hlt1 g hg; have := hG g hm; omega, by simp, by simp, by simp, hF, fun g hg => by have := hG g hg; omega, hk02⟩
  refine xJoin_of (fun ls w' => ls = [.bool false] ∧ Kept [] w2 w') ?_ ?_
  · refine (xR_pnil PT_22).2 ((xR_pnil PT_52).2 ((xR_neqBool BOOLG6).2 ?_))
    simp only [Option.isNone_some, beq_self_eq_true, Bool.not_true, xIf_false]
    refine xE_call CF_17 kindNil_ok ?_
    rintro _ w3 ⟨rfl, hk3⟩
    simp only [xR_neq, ne_eq, not_true_eq_false, decide_false]
    exact ⟨trivial, hk3⟩
  rintro _ _ w3 ⟨rfl, hk3⟩
  simp only [List.getD_cons_zero, xIf_false]
  have hsec0 : (Dk.new n.toNat).sec.length ≤ 12 := by simp [Dk.new]; omega
  refine xLoop_of (fun ls w' => ∃ (i : Nat) (D : Dk), ls = [.int .i64 i] ∧ i ≤ l.length ∧ i ≤ 40 ∧ TD w w' p q D D [])
    (fun ls _ => match ls with | [.int _ i] => 40 - i.toNat | _ => 0) ⟨0, _, rfl, by omega, by omega, ht2.next hk3⟩ ?_
  clear ht2 hD hE hF hG hlt1 h2 hsec0
  rintro _ _ w4 ⟨i, D, rfl, hi, hi40, h4⟩
  refine xJoin_of (fun ls w' => ls = [.bool (decide (i < l.length ∧ i < 40))] ∧ w4 = w') ?_ ?_
  · simp only [xP_nil, xP_pick, xP_func, xP_not, xP_add, xP_sub, xP_mul, xP_lss, xP_leq, xP_gtr, xP_geq, xP_max2, xP_min2, xR_eql, xR_neq, Nat.zero_add, Nat.add_zero, Nat.reduceAdd, List.getD_cons_zero, List.getD_cons_succ, xIf_true, xIf_false, FA_44_0, FA_44_1, FA_44_2, FA_44_3, FA_44_4, FA_44_5, FA_63_0, FA_63_1, FA_63_2, FA_63_3, FA_71_0, FA_71_1, FA_71_2, FA_71_3, FA_81_2, LEN_28, LEN_40, LEN_46, LEN_59, LEN_106, xIf_dec]
    refine ⟨fun h1 => ⟨fun h2 => ?_, fun h2 => ⟨by rw [decide_eq_false (by omega)], trivial⟩⟩, fun h1 => ⟨by rw [decide_eq_false (by omega)], trivial⟩⟩
    refine (xR_pnilNe9 PT_22).2 ?_
    exact ⟨by rw [decide_eq_true (by omega)]; rfl, trivial⟩
  rintro _ _ _ ⟨rfl, rfl⟩
  simp only [List.getD_cons_zero, xIf_dec]
  refine ⟨fun hgo => ?_, fun hstop => dRunsG hgl h4.k0⟩
  have hil := hgo.1
  refine (rowDA.get hl h4.k0 hil).2 ?_
  generalize l[i] = x at *
  refine newAsk (x := x) fun w5 hb5 hk5 hz5 => ?_
  have h5 : TD w w5 p q D D [w4.heap.size] := h4.own hk5 (by simp) (by simp) (fun g hg => by simp at hg; subst hg; exact ⟨.inr (Nat.le_refl _), hz5⟩)
  have hQw : w.heap.size ≤ w4.heap.size := h4.k0.size
  clear h4
  generalize w4.heap.size = Q at *
  obtain ⟨Q0, Q1, Q2, Q3, Q4, Q5⟩ := ldA hb5
  refine xJoin_of (fun ls w' => ∃ D', ls = [.bool true] ∧ TD w w' p q D' D' [Q] ∧ Blk w' Q 44 (encA x)) ?_ ?_
  · simp only [xP_nil, xP_pick, xP_func, xP_not, xP_add, xP_sub, xP_mul, xP_lss, xP_leq, xP_gtr, xP_geq, xP_max2, xP_min2, xR_eql, xR_neq, Nat.zero_add, Nat.add_zero, Nat.reduceAdd, List.getD_cons_zero, List.getD_cons_succ, xIf_true, xIf_false, FA_44_0, FA_44_1, FA_44_2, FA_44_3, FA_44_4, FA_44_5, FA_63_0, FA_63_1, FA_63_2, FA_63_3, FA_71_0, FA_71_1, FA_71_2, FA_71_3, FA_81_2, LEN_28, LEN_40, LEN_46, LEN_59, LEN_106, Q0, xIf_dec]
    refine ⟨fun c1 => ?_, fun c1 => ⟨fun c2 => ?_, fun c2 => ⟨fun c3 => ?_, fun c3 => ⟨fun c4 => ?_, fun c4 => ⟨fun c5 => ?_, fun c5 => ⟨fun c6 => ?_, fun c6 => ⟨D, trivial, h5, hb5⟩⟩⟩⟩⟩⟩⟩
    · simp only [Q3]
      refine xE_call CF_11 sector_ok ?_
      rintro _ w6 ⟨r, rfl, hr, hrb, hrx, hk6⟩
      have hrl := hr.lt
      have h6 : TD w w6 p q D D [Q, r.b] := h5.own hk6 (by simp) (by simp) (fun g hg => by
        simp at hg
        rcases hg with rfl | rfl
        · have := h5.lt g (by simp); have := hk6.size; exact ⟨.inl (by simp), by omega⟩
        · exact ⟨.inr (by omega), hrl⟩)
      have hb6 := hb5.kept hk6 (by simp)
      obtain ⟨R0, R1, R2, R3, R4, R5⟩ := ldA hb6
      obtain ⟨so, sc, hrv⟩ := hr.some
      have hsl0 := hr.slT
      rw [hrv, hrx] at hsl0
      rw [hrv]
      refine xJoin_of (fun ls w' => ∃ (o c : Nat) (b : List UInt8), ls = [.slice (some ⟨r.b, o, none⟩) b.length c] ∧ SlT w' encB (.slice (some ⟨r.b, o, none⟩) b.length c) b ∧ b.length ≤ 128 ∧ w6 = w') ?_ ?_
      · simp only [xP_nil, xP_pick, xP_func, xP_not, xP_add, xP_sub, xP_mul, xP_lss, xP_leq, xP_gtr, xP_geq, xP_max2, xP_min2, xR_eql, xR_neq, Nat.zero_add, Nat.add_zero, Nat.reduceAdd, List.getD_cons_zero, List.getD_cons_succ, xIf_true, xIf_false, FA_44_0, FA_44_1, FA_44_2, FA_44_3, FA_44_4, FA_44_5, FA_63_0, FA_63_1, FA_63_2, FA_63_3, FA_71_0, FA_71_1, FA_71_2, FA_71_3, FA_81_2, LEN_28, LEN_40, LEN_46, LEN_59, LEN_106, R5]
        rw [xIf_bool]
        refine ⟨fun hs => ?_, fun hs => ⟨so, sc, all x.x, by rw [all_len], by rw [all_len]; exact hsl0, by rw [all_len]; omega, trivial⟩⟩
        refine (xP_from (i := 1) SL_28 SZ_5 (by omega) (by omega)).2 ?_
        have hsc : 128 ≤ sc := by
          obtain ⟨a', c', e, hc, _⟩ := hsl0
          cases e
          rw [all_len] at hc
          exact hc
        have hsub := SlT.sub (i := 1) (j := (all x.x).length) (a := some ⟨r.b, so, none⟩) (c := sc) encB_len (by rw [all_len]; exact hsl0) (by rw [all_len]; omega) (Nat.le_refl _)
        have hlen : (((all x.x).drop 1).take ((all x.x).length - 1)).length = 127 := by rw [List.length_take, List.length_drop, all_len]; omega
        rw [all_len, if_neg (by omega), Option.map_some, add_none] at hsub
        rw [show (1 : Int).toNat = 1 from rfl, if_neg (by omega), Option.map_some, add_none]
        rw [all_len] at hlen
        refine ⟨so + 1 * 1, sc - 1, ((all x.x).drop 1).take (128 - 1), ?_, ?_, ?_, trivial⟩
        · rw [hlen]
        · rw [hlen]; exact hsub
        · rw [hlen]; omega
      rintro _ _ _ ⟨bo, bc, b, rfl, hbv, hbl, rfl⟩
      simp only [List.getD_cons_zero]
      refine xE_call CF_24 (roomyB_ok (m := 9) hbv (by omega)) ?_
      rintro _ w7 ⟨g, rfl, hg7, hgw, hk7⟩
      have hd := kept_drew [] w7
      have hk67 := hk7.then hd (by simp)
      have hbv7 := hbv.kept0 hk67
      have hb7 := hb6.kept hk67 (by simp)
      have hg7d := hg7.kept hd (by simp)
      have hfl : (b ++ List.replicate 80 9).length = b.length + 80 := by simp
      have hfull : SlT w7.drew encB (.slice (some ⟨g, 0, none⟩) (b.length + 80) (b.length + 80)) (b ++ List.replicate 80 9) := by
        have := slT_blk hg7d
        rwa [hfl] at this
      have h7 : TD w w7.drew p q D D [Q, r.b, g] := h6.own hk67 (by simp) (by simp) (fun y hy => by
        simp at hy
        have hz := hk67.size
        rcases hy with rfl | rfl | rfl
        · have := h6.lt y (by simp); exact ⟨.inl (by simp), by omega⟩
        · have := h6.lt r.b (by simp); exact ⟨.inl (by simp), by omega⟩
        · exact ⟨.inr hgw, hg7d.lt⟩)
      obtain ⟨T0, T1, T2, T3, T4, T5⟩ := ldA hb7
      simp only [xP_nil, xP_pick, xP_func, xP_not, xP_add, xP_sub, xP_mul, xP_lss, xP_leq, xP_gtr, xP_geq, xP_max2, xP_min2, xR_eql, xR_neq, Nat.zero_add, Nat.add_zero, Nat.reduceAdd, List.getD_cons_zero, List.getD_cons_succ, xIf_true, xIf_false, FA_44_0, FA_44_1, FA_44_2, FA_44_3, FA_44_4, FA_44_5, FA_63_0, FA_63_1, FA_63_2, FA_63_3, FA_71_0, FA_71_1, FA_71_2, FA_71_3, FA_81_2, LEN_28, LEN_40, LEN_46, LEN_59, LEN_106, T1]
      refine (xP_upto SL_28 SZ_5 (by omega) (by omega)).2 ?_
      rw [Int.toNat_natCast]
      have hup := SlT.upto (j := b.length) (a := some ⟨g, 0, none⟩) (c := b.length + 80) encB_len (by rw [hfl]; exact hfull) (by omega)
      rw [List.take_left] at hup
      refine writeTD h7 hup fun w8 M8 h8 hk8 hM8 => ?_
      have hb8 := hb7.kept hk8 (fun hm => hM8 Q hm (by simp))
      have hbv8 : SlT w8 encB _ b := hbv7.kept hk8 (fun y _ _ _ e hm => by cases e; exact hM8 _ hm (by simp))
      have hfull8 : SlT w8 encB _ _ := hfull.kept hk8 (fun y _ _ _ e hm => by cases e; exact hM8 _ hm (by simp))
      refine (still1 ONE_3 (hb8.cell (o := 1))).2 ?_
      refine kindD (hgl.kept0 h8.k0) fun w9 hk9 => ?_
      have hb9 := hb8.kept hk9 (by simp)
      refine (still1 ONE_3 (hb9.cell (o := 1))).2 ?_
      refine rwriteTD (h8.next hk9) (hbv8.kept0 hk9) fun w10 M10 h10 hk10 hM10 => ?_
      simp only [xR_eql, decide_true, xIf_true]
      have hbv10 : SlT w10 encB _ b := (hbv8.kept0 hk9).kept hk10 (fun y _ _ _ e hm => by cases e; exact hM10 _ hm (by simp))
      have hfull10 : SlT w10 encB _ _ := (hfull8.kept0 hk9).kept hk10 (fun y _ _ _ e hm => by cases e; exact hM10 _ hm (by simp))
      refine xE_call CF_26 (intactB_ok (m := 9) hfull10 hbv10 (by omega) rfl) ?_
      rintro _ w11 ⟨rfl, hk11⟩
      refine ⟨_, rfl, (h10.next hk11).own (Kept.refl [] _) (by simp) (by simp) (fun y hy => ?_), (hb9.kept hk10 (fun hm => hM10 Q hm (by simp))).kept hk11 (by simp)⟩
      have := (h10.next hk11).lt y (by simp at hy; subst hy; simp)
      simp at hy
      subst hy
      exact ⟨.inl (by simp), this⟩
    · refine flushTD h5 fun w6 M6 h6 hk6 hM6 => ?_
      have hb6 := hb5.kept hk6 (fun hm => hM6 Q hm (by simp))
      refine kindD (hgl.kept0 h6.k0) fun w7 hk7 => ?_
      refine rflushTD (h6.next hk7) fun w8 M8 h8 hk8 hM8 => ?_
      simp only [xR_eql, decide_true]
      exact ⟨_, trivial, h8, (hb6.kept hk7 (by simp)).kept hk8 (fun hm => hM8 Q hm (by simp))⟩
    · simp only [Q4]
      refine crashTD h5 fun _ w6 M6 h6 hk6 hM6 => ?_
      have hb6 := hb5.kept hk6 (fun hm => hM6 Q hm (by simp))
      obtain ⟨R0, R1, R2, R3, R4, R5⟩ := ldA hb6
      simp only [R4]
      refine rcrashTD h6 fun _ w7 M7 h7 hk7 hM7 => ?_
      exact ⟨_, trivial, h7, hb6.kept hk7 (fun hm => hM7 Q hm (by simp))⟩
    · have hd := kept_drew [] w5
      have h5d := h5.next hd
      have hb5d := hb5.kept hd (by simp)
      obtain ⟨R0, R1, R2, R3, R4, R5⟩ := ldA hb5d
      simp only [R1, R2, R4]
      refine (xP_conv INT_31 INT_35).2 ?_
      refine (xP_conv INT_31 INT_35).2 ?_
      refine rotTD h5d fun w6 M6 h6 hk6 hM6 => ?_
      have hb6 := hb5d.kept hk6 (fun hm => hM6 Q hm (by simp))
      refine (still1 ONE_31 (hb6.cell (o := 4))).2 ((still1 ONE_3 (hb6.cell (o := 2))).2 ((still1 ONE_3 (hb6.cell (o := 1))).2 ?_))
      refine rrotTD h6 fun w7 M7 h7 hk7 hM7 => ?_
      refine (xR_eqlBool BOOLG6).2 ?_
      exact ⟨_, by simp, h7, hb6.kept hk7 (fun hm => hM7 Q hm (by simp))⟩
    · refine dieTD h5 fun _ w6 M6 h6 hk6 hM6 => ?_
      have hb6 := hb5.kept hk6 (fun hm => hM6 Q hm (by simp))
      refine rdieTD h6 fun _ w7 M7 h7 hk7 hM7 => ?_
      exact ⟨_, trivial, h7, hb6.kept hk7 (fun hm => hM7 Q hm (by simp))⟩
    · refine replaceTD h5 fun _ w6 M6 h6 hk6 hM6 => ?_
      have hb6 := hb5.kept hk6 (fun hm => hM6 Q hm (by simp))
      refine rreplaceTD h6 fun _ w7 M7 h7 hk7 hM7 => ?_
      exact ⟨_, trivial, h7, hb6.kept hk7 (fun hm => hM7 Q hm (by simp))⟩
  rintro _ _ w6 ⟨D', rfl, h6, hb6⟩
  simp only [List.getD_cons_zero]
  clear h5 hb5 Q0 Q1 Q2 Q3 Q4 Q5
  have hsc := h6.dx.secs
  obtain ⟨GR, lb, o, cap, wm, rm, S, W, R, hm6, ha6, hGR⟩ := h6.ref
  have hsl : S.length = D'.sec.length := by rw [← ha6.1, List.length_map]
  obtain ⟨L0, L1, L2, L3⟩ := hm6.ld
  simp only [xP_nil, xP_pick, xP_func, xP_not, xP_add, xP_sub, xP_mul, xP_lss, xP_leq, xP_gtr, xP_geq, xP_max2, xP_min2, xR_eql, xR_neq, Nat.zero_add, Nat.add_zero, Nat.reduceAdd, List.getD_cons_zero, List.getD_cons_succ, xIf_true, xIf_false, FA_44_0, FA_44_1, FA_44_2, FA_44_3, FA_44_4, FA_44_5, FA_63_0, FA_63_1, FA_63_2, FA_63_3, FA_71_0, FA_71_1, FA_71_2, FA_71_3, FA_81_2, LEN_28, LEN_40, LEN_46, LEN_59, LEN_106, L0]
  rw [hsl]
  refine xLoop_of (fun ls w' => ∃ (k : Nat) (v : Value) (H : List Nat), ls = [.bool true, v, .int .i64 k] ∧ k ≤ D'.sec.length ∧ Own w' 3 1 v (intsOf ((List.range k).filter fun i => (D'.wt i).isSome)).length ((intsOf ((List.range k).filter fun i => (D'.wt i).isSome)).flatMap encI) H ∧ (∀ g ∈ H, w6.heap.size ≤ g) ∧ TD w w' p q D' D' (Q :: H) ∧ Kept [] w6 w')
    (fun ls _ => match ls with | [_, _, .int _ k] => D'.sec.length - k.toNat | _ => 0) ⟨0, .slice none 0 0, [], rfl, by omega, by simp only [List.range_zero, List.filter_nil]; exact own_nil _ _ _, by simp, h6, Kept.refl _ _⟩ ?_
  rintro _ _ w7 ⟨k, v, H, rfl, hk, ho, hH, h7, hk7⟩
  have hm7 := hm6.kept0 hk7
  obtain ⟨L0, L1, L2, L3⟩ := hm7.ld
  have hb7 := hb6.kept hk7 (by simp)
  simp only [xP_nil, xP_pick, xP_func, xP_not, xP_add, xP_sub, xP_mul, xP_lss, xP_leq, xP_gtr, xP_geq, xP_max2, xP_min2, xR_eql, xR_neq, Nat.zero_add, Nat.add_zero, Nat.reduceAdd, List.getD_cons_zero, List.getD_cons_succ, xIf_true, xIf_false, FA_44_0, FA_44_1, FA_44_2, FA_44_3, FA_44_4, FA_44_5, FA_63_0, FA_63_1, FA_63_2, FA_63_3, FA_71_0, FA_71_1, FA_71_2, FA_71_3, FA_81_2, LEN_28, LEN_40, LEN_46, LEN_59, LEN_106, xIf_dec]
  refine ⟨fun hlt => ?_, fun hge => ?_⟩
  · refine xJoin_of (fun ls w' => ∃ (v : Value) (H : List Nat), ls = [.bool true, v] ∧ Own w' 3 1 v (intsOf ((List.range (k + 1)).filter fun i => (D'.wt i).isSome)).length ((intsOf ((List.range (k + 1)).filter fun i => (D'.wt i).isSome)).flatMap encI) H ∧ (∀ g ∈ H, w6.heap.size ≤ g) ∧ TD w w' p q D' D' (Q :: H) ∧ Kept [] w6 w') ?_ ?_
    · refine xJoin_of (fun ls w' => ∃ (v : Value) (H : List Nat), ls = [v] ∧ Own w' 3 1 v (intsOf ((List.range (k + 1)).filter fun i => (D'.wt i).isSome)).length ((intsOf ((List.range (k + 1)).filter fun i => (D'.wt i).isSome)).flatMap encI) H ∧ (∀ g ∈ H, w6.heap.size ≤ g) ∧ TD w w' p q D' D' (Q :: H) ∧ Kept [] w6 w') ?_ ?_
      · simp only [xP_nil, xP_pick, xP_func, xP_not, xP_add, xP_sub, xP_mul, xP_lss, xP_leq, xP_gtr, xP_geq, xP_max2, xP_min2, xR_eql, xR_neq, Nat.zero_add, Nat.add_zero, Nat.reduceAdd, List.getD_cons_zero, List.getD_cons_succ, xIf_true, xIf_false, FA_44_0, FA_44_1, FA_44_2, FA_44_3, FA_44_4, FA_44_5, FA_63_0, FA_63_1, FA_63_2, FA_63_3, FA_71_0, FA_71_1, FA_71_2, FA_71_3, FA_81_2, LEN_28, LEN_40, LEN_46, LEN_59, LEN_106, L1]
        refine (xR_lookupOk MP_60 hm7.mw Z_28).2 ?_
        simp only [xP_ex0, xP_ex1]
        rw [isSome_wt ha6, xIf_bool, List.range_succ, List.filter_append]
        have hfl : ((List.range k).filter fun i => (D'.wt i).isSome).length ≤ k := by have := List.length_filter_le (fun i => (D'.wt i).isSome) (List.range k); rwa [List.length_range] at this
        refine ⟨fun hy => ?_, fun hn => ?_⟩
        · refine oneI fun u w8 hu hk8 => ?_
          refine xE_appendSrc EL_46 (ho.kept hk8 (by simp)) (Src.ofSlT (l := [(k : Int)]) (e' := 3) (by kernel_rfl) hu encI_len (fun x u hu => by simp [encI] at hu; subst hu; rfl)) (by simp [intsOf]; omega) (by unfold maxLen; simp [intsOf]; omega) fun u2 w9 G9 ho9 hk9 hG9 _ => ?_
          have hz := (hk7.then hk8 (by simp)).size
          have hz6 := h6.k0.size
          have e : intsOf ((List.range k).filter (fun i => (D'.wt i).isSome) ++ [k].filter fun i => (D'.wt i).isSome) = intsOf ((List.range k).filter fun i => (D'.wt i).isSome) ++ [(k : Int)] := by
            simp [intsOf, hy]
          refine ⟨u2, G9, rfl, ?_, fun g hg => (hG9 g hg).elim (hH g) (fun h => by omega), (h7.next hk8).own hk9 (fun g hg => List.mem_cons_of_mem _ hg) (fun g hg => by have := hH g hg; omega) (fun g hg => ?_), (hk7.then hk8 (by simp)).then hk9 (fun g hg => .inr (hH g hg))⟩
          · rw [e, List.flatMap_append, List.length_append]
            exact ho9
          · rcases List.mem_cons.1 hg with rfl | hg
            · have := h7.lt g (by simp); have := hk8.size; have := hk9.size
              exact ⟨.inl (by simp), by omega⟩
            · exact ⟨(hG9 g hg).imp (List.mem_cons_of_mem _) id, ho9.lt g hg⟩
        · refine ⟨v, H, rfl, ?_, hH, h7, hk7⟩
          have e : [k].filter (fun i => (D'.wt i).isSome) = [] := by simp [hn]
          rw [e, List.append_nil]
          exact ho
      rintro _ _ w8 ⟨v8, H8, rfl, ho8, hH8, h8, hk8⟩
      refine readTD h8 fun a w9 h9 hk9 ha9 => ?_
      simp only [xP_ex0, xP_ex1, List.getD_cons_zero]
      refine rreadTD h9 fun b w10 h10 hk10 hb10 => ?_
      simp only [xP_ex0, xP_ex1, xIf_true]
      have hlen : (if D'.refK (k : Int) false = 0 then D'.read (k : Int).toNat else []).length ≤ 128 := by
        split
        · rw [Int.toNat_natCast]
          unfold Dk.read
          cases hw : D'.wt k with
          | some y => have := (h6.dx.waits k y hw).2; simp; omega
          | none =>
            have hkl : k < D'.sec.length := by omega
            simp only [Option.getD_none]
            rw [List.getD_eq_getElem?_getD, List.getElem?_eq_getElem hkl]
            have := hsc.2.2 _ (List.getElem_mem hkl)
            simp; omega
        · simp
      refine sameBS (ha9.kept0 hk10) hb10 (by omega) fun w11 hk11 => ?_
      simp only [decide_true, xIf_true]
      have h11 := h10.next hk11
      refine kindD (hgl.kept0 h11.k0) fun w12 hk12 => ?_
      simp only [xR_eql, decide_true]
      have hk812 := ((hk9.then hk10 (by simp)).then hk11 (by simp)).then hk12 (by simp)
      exact ⟨v8, H8, rfl, ho8.kept hk812 (by simp), hH8, h11.next hk12, hk8.then hk812 (by simp)⟩
    rintro _ _ w8 ⟨v8, H8, rfl, ho8, hH8, h8, hk8⟩
    try simp only [xP_nil, xP_pick, xP_func, xP_not, xP_add, xP_sub, xP_mul, xP_lss, xP_leq, xP_gtr, xP_geq, xP_max2, xP_min2, xR_eql, xR_neq, Nat.zero_add, Nat.add_zero, Nat.reduceAdd, List.getD_cons_zero, List.getD_cons_succ, xIf_true, xIf_false, FA_44_0, FA_44_1, FA_44_2, FA_44_3, FA_44_4, FA_44_5, FA_63_0, FA_63_1, FA_63_2, FA_63_3, FA_71_0, FA_71_1, FA_71_2, FA_71_3, FA_81_2, LEN_28, LEN_40, LEN_46, LEN_59, LEN_106]
    rw [wrap64 (by omega) (by omega)]
    exact ⟨⟨k + 1, v8, H8, rfl, by omega, ho8, hH8, h8, hk8⟩, by omega⟩
  · obtain rfl : k = D'.sec.length := by omega
    obtain ⟨R0, R1, R2, R3, R4, R5⟩ := ldA hb7
    simp only [R1]
    refine readTD h7 fun a w8 h8 hk8 _ => ?_
    obtain ⟨T0, T1, T2, T3, T4, T5⟩ := ldA (hb7.kept hk8 (by simp))
    simp only [xP_ex0, xP_ex1, T1]
    refine rreadTD h8 fun b w9 h9 hk9 _ => ?_
    simp only [xP_ex0, xP_ex1]
    have hd := kept_drew [] w9
    have h9d := h9.next hd
    have hk79 := (hk8.then hk9 (by simp)).then hd (by simp)
    refine xJoin_of (fun ls w' => ls = [.bool false] ∧ Kept [] w9 w') ?_ ?_
    · simp only [xP_not, Bool.not_true, xIf_false]
      refine kindD (hgl.kept0 h9d.k0) fun w10 hk10 => ?_
      have h10 := h9d.next hk10
      simp only [xR_neq, ne_eq, not_true_eq_false, decide_false, xIf_false]
      refine waitsD h10.dx fun wv w11 hwv hk11 _ => ?_
      have hk711 := (hk79.then hk10 (by simp)).then hk11 (by simp)
      have hos := (ho.kept hk711 (by simp)).slT encI_len (by omega)
      have hwl : (intsOf D'.ws).length ≤ 128 := by have := ws_le D'; simp [intsOf]; omega
      refine xE_call CF_33 (same_ok hwv hos (by omega)) ?_
      rintro _ w12 ⟨rfl, hk12⟩
      rw [show decide (intsOf D'.ws = intsOf ((List.range D'.sec.length).filter fun i => (D'.wt i).isSome)) = true from decide_eq_true rfl]
      simp only [xP_not, Bool.not_true, xIf_false]
      have hk712 := hk711.then hk12 (by simp)
      have hm12 := hm7.kept0 hk712
      obtain ⟨U0, U1, U2, U3⟩ := hm12.ld
      simp only [xP_nil, xP_pick, xP_func, xP_not, xP_add, xP_sub, xP_mul, xP_lss, xP_leq, xP_gtr, xP_geq, xP_max2, xP_min2, xR_eql, xR_neq, Nat.zero_add, Nat.add_zero, Nat.reduceAdd, List.getD_cons_zero, List.getD_cons_succ, xIf_true, xIf_false, FA_44_0, FA_44_1, FA_44_2, FA_44_3, FA_44_4, FA_44_5, FA_63_0, FA_63_1, FA_63_2, FA_63_3, FA_71_0, FA_71_1, FA_71_2, FA_71_3, FA_81_2, LEN_28, LEN_40, LEN_46, LEN_59, LEN_106, U3]
      have h12 := (h10.next hk11).next hk12
      refine deadD h12.dx ?_
      refine (still1 ONE_4 (hm12.blk.cell (o := 3))).2 ?_
      refine (xR_neqBool BOOLG6).2 ?_
      simp only [beq_self_eq_true, Bool.not_true, xIf_false, U0]
      try simp only [xP_nil, xP_pick, xP_func, xP_not, xP_add, xP_sub, xP_mul, xP_lss, xP_leq, xP_gtr, xP_geq, xP_max2, xP_min2, xR_eql, xR_neq, Nat.zero_add, Nat.add_zero, Nat.reduceAdd, List.getD_cons_zero, List.getD_cons_succ, xIf_true, xIf_false, FA_44_0, FA_44_1, FA_44_2, FA_44_3, FA_44_4, FA_44_5, FA_63_0, FA_63_1, FA_63_2, FA_63_3, FA_71_0, FA_71_1, FA_71_2, FA_71_3, FA_81_2, LEN_28, LEN_40, LEN_46, LEN_59, LEN_106]
      refine sectorsD h12.dx ?_
      refine (still1 ONE_59 (hm12.blk.cell (o := 0))).2 ?_
      rw [hsl]
      simp only [xR_neq, ne_eq, not_true_eq_false, decide_false]
      exact ⟨trivial, ((hd.then hk10 (by simp)).then hk11 (by simp)).then hk12 (by simp)⟩
    rintro _ _ w10 ⟨rfl, hk10⟩
    simp only [List.getD_cons_zero, xIf_false]
    rw [wrap64 (by omega) (by omega)]
    have h10 := h9.next hk10
    exact ⟨⟨i + 1, D', rfl, by omega, by omega, h10.own (Kept.refl [] _) (by simp) (by simp) (by simp)⟩, by omega⟩
end Go.Proofs.YthmjjdfjegjfeaaDoor
