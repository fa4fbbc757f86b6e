import Derived.Test.YtbfaglbfpmnnmaaDoorXMem
import Derived.Great.FillDense
import Derived.Great.BuildSlice
namespace Go.X
set_option linter.unusedSimpArgs false
set_option linter.unusedVariables false
open Go Go.RowKit Go.Great

/-! ## Rows that the call itself owns -/
/-- The slice v, of n elements of type E (sz cells each), owns the cells xs and the room behind them; F: its block, if it has one. -/
def Own (w : World) (E : TypeId) (sz : Nat) (v : Value) (n : Nat) (xs : List Value) (F : List Nat) : Prop :=
  xs.length = n * sz ∧ ((v = .slice none 0 0 ∧ n = 0 ∧ F = []) ∨
    ∃ g o cap cur, v = .slice (some ⟨g, o, none⟩) n cap ∧ F = [g] ∧ Blk w g E cur ∧ n ≤ cap ∧ cap ≤ maxLen ∧ o + cap * sz ≤ cur.length ∧ (cur.drop o).take (n * sz) = xs)

section
variable {w w' : World} {E : TypeId} {sz : Nat} {v : Value} {n : Nat} {xs : List Value} {F : List Nat}
theorem own_nil (w : World) (E : TypeId) (sz : Nat) : Own w E sz (.slice none 0 0) 0 [] [] := ⟨by simp, .inl ⟨rfl, rfl, rfl⟩⟩
theorem Own.lt (h : Own w E sz v n xs F) : ∀ g ∈ F, g < w.heap.size := by
  intro g hg
  rcases h.2 with ⟨_, _, rfl⟩ | ⟨g', _, _, _, _, rfl, hh, _⟩
  · cases hg
  · simp at hg; subst hg; exact hh.lt
theorem Own.kept {M : List Nat} (h : Own w E sz v n xs F) (hk : Kept M w w') (hd : ∀ g ∈ F, g ∉ M) : Own w' E sz v n xs F := by
  refine ⟨h.1, ?_⟩
  rcases h.2 with hn | ⟨g, o, cap, cur, hv, rfl, hh, hr⟩
  · exact .inl hn
  · exact .inr ⟨g, o, cap, cur, hv, rfl, hh.kept hk (hd g (by simp)), hr⟩
theorem Own.slice (h : Own w E sz v n xs F) : ∃ a c, v = .slice a n c ∧ n ≤ c ∧ (xs = [] ∨ ∃ b o, a = some ⟨b, o, none⟩ ∧ F = [b] ∧ At w b o xs) := by
  rcases h.2 with ⟨rfl, rfl, _⟩ | ⟨g, o, cap, cur, rfl, rfl, hh, hn, _, hs, ht⟩
  · exact ⟨none, 0, rfl, Nat.le_refl _, .inl (List.eq_nil_of_length_eq_zero (by simpa using h.1))⟩
  · refine ⟨_, cap, rfl, hn, .inr ⟨g, o, rfl, rfl, ?_⟩⟩
    rw [← ht]
    have := hh.at.sub o (n * sz)
    rwa [Nat.zero_add] at this
theorem Own.addr (h : Own w E sz v n xs F) : ∀ b o m c, v = .slice (some ⟨b, o, none⟩) m c → b ∈ F := by
  intro b o m c hv
  rcases h.2 with ⟨rfl, _⟩ | ⟨g, o', cap, cur, rfl, rfl, _⟩
  · cases hv
  · cases hv; simp
theorem Own.bases (h : Own w E sz v n xs F) : ∀ a m c, v = .slice a m c → a = none ∨ ∃ g o, a = some ⟨g, o, none⟩ ∧ g ∈ F := by
  intro a m c hv
  rcases h.2 with ⟨rfl, _⟩ | ⟨g, o, cap, cur, rfl, rfl, _⟩
  · cases hv; exact .inl rfl
  · cases hv; exact .inr ⟨g, o, rfl, by simp⟩
/-- A row without its first k elements. -/
theorem Own.from (h : Own w E sz v n xs F) {a : Option Addr} {c k : Nat} (hv : v = .slice a n c) (hk : k ≤ n) : Own w E sz (.slice (if c = k then a else a.map (·.add (k * sz))) (n - k) (c - k)) (n - k) (xs.drop (k * sz)) F := by
  refine ⟨by rw [List.length_drop, h.1, Nat.sub_mul], ?_⟩
  rcases h.2 with ⟨rfl, rfl, rfl⟩ | ⟨g, o, cap, cur, rfl, rfl, hh, hn, hm, hs, ht⟩
  · cases hv
    obtain rfl : k = 0 := by omega
    exact .inl ⟨rfl, rfl, rfl⟩
  · cases hv
    right
    by_cases hck : c = k
    · subst hck
      obtain rfl : n = c := by omega
      refine ⟨g, o, 0, cur, by simp, rfl, hh, by omega, by omega, by simp; omega, ?_⟩
      simp
      rw [← ht]
      simp
      omega
    · refine ⟨g, o + k * sz, c - k, cur, by rw [if_neg hck]; simp [add_none], rfl, hh, by omega, by omega, ?_, ?_⟩
      · have : (c - k) * sz + k * sz = c * sz := by rw [← Nat.add_mul, Nat.sub_add_cancel (by omega)]
        omega
      · rw [← ht, List.drop_take, List.drop_drop, Nat.sub_mul]
end

theorem run_sB (P : Program) (s : Sem Value) (w : World) {v : Value} {w' : World} (h : s.run P w = .ok v w') : (do pure (Next.value (← s)) : Sem Next).run P w = .ok (.value v) w' := by
  rw [run_value, h]; rfl

section
variable {P : Program} {w : World} {T E : TypeId} {sz bytes : Nat} {z : Value} {v : Value} {n : Nat} {xs : List Value} {F : List Nat}

structure ElemB (P : Program) (T E : TypeId) (sz bytes : Nat) (z : Value) : Prop where
  sl : sliceB P T E = true
  size : sizeB P E sz = true
  by_ : bytesB P E bytes = true
  zero : zeroB P E z
  zs : z.cells.size = sz
  pos : 0 < sz

theorem ElemB.info (h : ElemB P T E sz bytes z) : P.underlying T = some (.slice E) ∧ ∃ i, P.info? E = some i ∧ i.zero = some z ∧ i.size = sz ∧ i.bytes = bytes := by
  refine ⟨sliceB_spec h.sl, ?_⟩
  obtain ⟨i, hi, hs⟩ := sizeB_spec h.size
  obtain ⟨i', hi', hb⟩ := bytesB_spec h.by_
  have hz := h.zero
  rw [hi] at hi'; cases hi'
  unfold zeroB at hz
  rw [hi] at hz
  exact ⟨i, hi, by simpa using hz, hs, hb⟩

theorem cells_list (l : List Value) : l.toArray.toList = l := rfl

/-- append of m elements to a row of one's own. -/
theorem append_own (he : ElemB P T E sz bytes z) (h : Own w E sz v n xs F) {b o m c : Nat} {news : List Value} (hx : At w b o news) (hl : news.length = m * sz) (h1 : ∀ u ∈ news, u.oneCell' = true)
    (hb : (n + m) * bytes ≤ 140737488355328) (h63 : n + m ≤ maxLen) (hm : 0 < m) :
    ∃ v' w' F', (Builtin.append_ #[T, T] 0 #[v, .slice (some ⟨b, o, none⟩) m c]).run P w = .ok v' w' ∧ Own w' E sz v' (n + m) (xs ++ news) F' ∧ Kept F w w' ∧ (∀ g ∈ F', g ∈ F ∨ (w.heap.size ≤ g ∧ w.heap.size < w'.heap.size)) := by
  obtain ⟨hu, i, hi, hz, hs, hby⟩ := he.info
  have hnews : ∀ j u, news[j]? = some u → w.cell? ((⟨b, o, none⟩ : Addr).add j) = some u := by
    intro j u hj
    rw [add_none, hx j (List.getElem?_eq_some_iff.1 hj).1, hj]
  have hsmall : ((n + m : Nat) : Int) ≤ 9223372036854775807 := by simp only [maxLen] at h63; omega
  have hlen : (xs ++ news).length = (n + m) * sz := by rw [List.length_append, h.1, hl, Nat.add_mul]
  have grown : ∀ (old : Nat), Own (w.drew.alloc (.cells (xs.toArray ++ news.toArray ++ Builtin.zeroCells z.cells (grownCap w (n + m) old E - (n + m))) E)) E sz
        (.slice (some ⟨w.heap.size, 0, none⟩) (n + m) (grownCap w (n + m) old E)) (n + m) (xs ++ news) [w.heap.size] ∧
      Kept F w (w.drew.alloc (.cells (xs.toArray ++ news.toArray ++ Builtin.zeroCells z.cells (grownCap w (n + m) old E - (n + m))) E)) := by
    intro old
    have hge := grownCap_ge w (n + m) old E
    have hcm : grownCap w (n + m) old E ≤ maxLen := grownCap_le_maxLen w (n + m) old E h63
    have hsz := size_zeroCells z.cells (grownCap w (n + m) old E - (n + m))
    rw [he.zs] at hsz
    refine ⟨⟨hlen, .inr ⟨w.heap.size, 0, _, xs ++ news ++ (Builtin.zeroCells z.cells (grownCap w (n + m) old E - (n + m))).toList, rfl, rfl, ?_, hge, hcm, ?_, ?_⟩⟩, (kept_drew F w).alloc _⟩
    · have : (xs.toArray ++ news.toArray ++ Builtin.zeroCells z.cells (grownCap w (n + m) old E - (n + m))) = (xs ++ news ++ (Builtin.zeroCells z.cells (grownCap w (n + m) old E - (n + m))).toList).toArray := by simp
      rw [this]
      exact blk_alloc w.drew E _
    · rw [List.length_append, hlen, Array.length_toList, hsz, Nat.sub_mul]
      have := Nat.mul_le_mul_right sz hge
      omega
    · rw [List.drop_zero, ← hlen]
      exact List.take_left
  rcases h.2 with ⟨rfl, rfl, rfl⟩ | ⟨g, o', cap, cur, rfl, rfl, hg, hnc, hcm, hcs, htake⟩
  · have hx0 : xs = [] := List.eq_nil_of_length_eq_zero (by simpa using h.1)
    subst hx0
    have hr := run_append_nil (P := P) w T 0 E i z hu hi hz ⟨b, o, none⟩ m c news (by rw [hl, hs]) hnews hm (by simpa using hsmall) (by rw [hby]; have := hb; simp only [Nat.zero_add] at this; omega)
    have hgr := grown 0
    simp only [Nat.zero_add] at hgr ⊢
    exact ⟨_, _, _, hr, by simpa using hgr.1, by simpa using hgr.2, fun g hg => .inr ⟨by simp at hg; omega, by simp⟩⟩
  · by_cases hroom : n + m ≤ cap
    · have hmul : (n + m) * sz ≤ cap * sz := Nat.mul_le_mul_right _ hroom
      have hxl := h.1
      have hsplit : cur = cur.take (o' + n * sz) ++ (cur.drop (o' + n * sz)).take (m * sz) ++ cur.drop (o' + (n + m) * sz) := by
        rw [Nat.add_mul, ← Nat.add_assoc, ← List.drop_drop (i := m * sz), List.append_assoc, List.take_append_drop, List.take_append_drop]
      have hll : ((cur.drop (o' + n * sz)).take (m * sz)).length = m * sz := by
        rw [List.length_take, List.length_drop]
        rw [Nat.add_mul] at hmul
        omega
      obtain ⟨w', hst, hb', hk', hsz'⟩ := storeCells_run (P := P) g (o' + n * sz) E news (cur.take (o' + n * sz)) ((cur.drop (o' + n * sz)).take (m * sz)) (cur.drop (o' + (n + m) * sz)) w 0 (hsplit ▸ hg) (by rw [hll, hl]) h1 (by rw [List.length_take]; rw [Nat.add_mul] at hmul; omega)
      have hf := run_firstCells_some (P := P) w i.size m ⟨b, o, none⟩ m c news (by rw [hl, hs]) hnews
      have hrun : (Builtin.append_ #[T, T] 0 #[.slice (some ⟨g, o', none⟩) n cap, .slice (some ⟨b, o, none⟩) m c]).run P w = .ok (.slice (some ⟨g, o', none⟩) (n + m) cap) w' := by
        rw [← hs] at hst
        simp [Builtin.append_, run_underlying hu, sizeOf, typeInfo, hi, Builtin.lenOf, hroom, hf, add_none, hst]
      have hc1 : (cur.take (o' + n * sz)).length = o' + n * sz := by rw [List.length_take]; rw [Nat.add_mul] at hmul; omega
      refine ⟨_, _, [g], hrun, ⟨hlen, .inr ⟨g, o', cap, _, rfl, rfl, hb', hroom, hcm, ?_, ?_⟩⟩, hk', fun g' hg' => .inl hg'⟩
      · rw [List.length_append, List.length_append, hc1, hl, List.length_drop]
        rw [Nat.add_mul] at hmul ⊢
        omega
      · rw [List.append_assoc, List.drop_append_of_le_length (by omega), List.drop_take, Nat.add_sub_cancel_left, htake, ← List.append_assoc, ← hlen]
        exact List.take_left
    · have holds : ∀ j u, xs[j]? = some u → w.cell? ((⟨g, o', none⟩ : Addr).add j) = some u := by
        intro j u hj
        have hat := hg.at.sub o' (n * sz)
        rw [htake, Nat.zero_add] at hat
        rw [add_none, hat j (List.getElem?_eq_some_iff.1 hj).1, hj]
      have hr := run_append_grow (P := P) w T 0 E i z hu hi hz ⟨g, o', none⟩ n cap xs (by rw [h.1, hs]) holds ⟨b, o, none⟩ m c news (by rw [hl, hs]) hnews (by omega) hsmall
        (growslice_fits (by omega) (by rw [hby]; exact hb))
      have hgr := grown cap
      exact ⟨_, _, _, hr, hgr.1, hgr.2, fun g' hg' => .inr ⟨by simp at hg'; omega, by simp⟩⟩

theorem xE_append {K : Value → World → Prop} (he : ElemB P T E sz bytes z) (h : Own w E sz v n xs F) {b o m c : Nat} {news : List Value} (hx : At w b o news) (hl : news.length = m * sz) (h1 : ∀ u ∈ news, u.oneCell' = true)
    (hb : (n + m) * bytes ≤ 140737488355328) (h63 : n + m ≤ maxLen) (hm : 0 < m)
    (k : ∀ v' w' F', Own w' E sz v' (n + m) (xs ++ news) F' → Kept F w w' → (∀ g ∈ F', g ∈ F ∨ w.heap.size ≤ g) → v'.oneCell' = true → K v' w') :
    xE P (sB .append #[T, T] #[v, .slice (some ⟨b, o, none⟩) m c]) w K := by
  obtain ⟨v', w', F', hr, ho, hk, hf⟩ := append_own (P := P) he h hx hl h1 hb h63 hm
  refine (xE_of (v := v') (w' := w') ?_).2 (k v' w' F' ho hk (fun g hg => (hf g hg).imp id (·.1)) ?_)
  · show (do pure (Next.value (← Builtin.append_ #[T, T] 0 #[v, .slice (some ⟨b, o, none⟩) m c])) : Sem Next).run P w = _
    exact run_sB P _ w hr
  · rcases ho.2 with ⟨rfl, _⟩ | ⟨_, _, _, _, rfl, _⟩ <;> rfl

/-- A slice written out. -/
theorem xE_buildSlice {K : Value → World → Prop} (he : ElemB P T E sz bytes z) {len : Nat} {parts : Array (Nat × Value)} (vs : List Value) (hp : parts.toList = (vs.zipIdx).map fun p => (p.2, p.1)) (hlen : vs.length = len) (hv : ∀ v ∈ vs, v.cells.size = sz)
    (hpos : 0 < len) (hsm : len * sz ≤ 16777216) (k : ∀ w', Blk w' w.heap.size E (vs.flatMap fun v => v.cells.toList) → Kept [] w w' → w'.heap.size = w.heap.size + 1 → K (.slice (some ⟨w.heap.size, 0, none⟩) len len) w') :
    xE P (sBuildSlice T len parts) w K := by
  obtain ⟨hu, i, hi, hz, hs, hby⟩ := he.info
  have hf := fill_whole he.pos vs ((Array.range (len * sz)).map (z.cells[· % z.cells.size]!)) hv (by simp [hlen])
  have hr := run_buildSlice (P := P) w T E len parts _ i z hu hi hz (by rw [hs]; omega) (by rw [hs]; have := Nat.mul_pos hpos he.pos; omega) (by rw [hs, hp]; exact hf)
  refine (xE_of (v := .slice (some ⟨w.heap.size, 0, none⟩) len len) (w' := w.alloc (.cells (vs.flatMap fun v => v.cells.toList).toArray E)) ?_).2 (k _ (blk_alloc _ _ _) (kept_alloc _ _ _) (by simp))
  unfold sBuildSlice
  exact run_sB P _ w hr
theorem xP_build {K : Value → Prop} {parts : Array (Nat × Value)} {cells : Array Value} (h : P.built T parts.toList = some cells) : xP P (sBuild T parts) K ↔ K (.agg cells) :=
  xP_of fun w => run_sB P _ w (run_build w T parts cells h)

/-! ## Calls -/
/-- The call returns a value for which Q holds. -/
def Gives (P : Program) (f : FuncId) (args : Array Value) (w : World) (Q : Value → World → Prop) : Prop := Calls P f args w (Ret Q)
def calleeB (P : Program) (f : FuncId) : Bool := match P.funcs[f]? with
  | some fn => fn.body.isSome && !(fn.name == "runtime.NumGoroutine")
  | none => false
theorem callFunc_run {f : FuncId} (h : calleeB P f = true) (args : Array Value) : (callFunc f args).run P w = .ok (.enter f args) w := by
  unfold calleeB at h
  split at h
  · rename_i fn hf
    simp only [Bool.and_eq_true, Bool.not_eq_true'] at h
    have hb : fn.body.isNone = false := by simp [Option.isNone_eq_false_iff, h.1]
    unfold callFunc
    simp only [Sem.run_bind, run_program, Result.andThen_ok, hf, h.2, hb, Bool.false_eq_true, if_false, Sem.run_pure]
  · cases h
theorem xE_call {f : FuncId} {args : Array Value} {K Q : Value → World → Prop} (h : calleeB P f = true) (hc : Gives P f args w Q) (k : ∀ v w', Q v w' → K v w') : xE P (sCall f args) w K := by
  unfold xE
  have : (sCall f args).run P w = .ok (.enter f args) w := by
    have e : sCall f args = callFunc f ((#[] ++ args) ++ #[]) := rfl
    rw [e, callFunc_run h]
    simp
  rw [this]
  exact Calls.mono hc (fun e w' he => by cases e <;> first | exact k _ _ he | exact he.elim)
theorem xE_callV {f : FuncId} {first args cap : Array Value} {K Q : Value → World → Prop} (h : calleeB P f = true) (hc : Gives P f (first ++ args ++ cap) w Q) (k : ∀ v w', Q v w' → K v w') : xE P (sCallV (.func (.func f) first cap) args) w K := by
  unfold xE
  have : (sCallV (.func (.func f) first cap) args).run P w = .ok (.enter f (first ++ args ++ cap)) w := by
    have e : sCallV (.func (.func f) first cap) args = callFunc f ((first ++ args) ++ cap) := rfl
    rw [e, callFunc_run h]
  rw [this]
  exact Calls.mono hc (fun e w' he => by cases e <;> first | exact k _ _ he | exact he.elim)
theorem Gives.mono {f : FuncId} {args : Array Value} {Q Q' : Value → World → Prop} (h : Gives P f args w Q) (k : ∀ v w', Q v w' → Q' v w') : Gives P f args w Q' :=
  Calls.mono h (fun e w' he => by cases e <;> first | exact k _ _ he | exact he.elim)

/-! ## Ways that meet, and rounds -/
theorem xJoin_one {b1 : (List Value → World → Prop) → Prop} {b2 : List Value → Env → World → Prop} (h : b1 (fun vs w => ∀ junk, b2 vs junk w)) : xJoin b1 b2 := ⟨_, h, fun _ junk _ hv => hv junk⟩
theorem xJoin_of {b1 : (List Value → World → Prop) → Prop} {b2 : List Value → Env → World → Prop} (J : List Value → World → Prop) (h1 : b1 J) (h2 : ∀ vs junk w, J vs w → b2 vs junk w) : xJoin b1 b2 := ⟨J, h1, h2⟩
theorem xLoop_of {vs0 : List Value} {w0 : World} {body : (List Value → World → Prop) → List Value → Env → World → Prop} (I : List Value → World → Prop) (μ : List Value → World → Nat) (h0 : I vs0 w0)
    (h : ∀ vs junk w, I vs w → body (fun vs' w' => I vs' w' ∧ μ vs' w' < μ vs w) vs junk w) : xLoop vs0 w0 body := ⟨I, μ, h0, h⟩

theorem ld1 {K : Value → Prop} (h : oneB P T = true) {a : Addr} {v : Value} (hc : w.cell? a = some v) : xR P (sLoad T (.pointer (some a))) w K ↔ K v := xR_of (load1 h hc)
theorem ldN {K : Value → Prop} {b o : Nat} {l : List Value} (h : aggB P T l.length = true) (hc : At w b o l) : xR P (sLoad T (.pointer (some ⟨b, o, none⟩))) w K ↔ K (.agg l.toArray) := xR_of (loadN h hc)
theorem still1 {B : Prop} (h : oneB P T = true) {a : Addr} {v : Value} (hc : w.cell? a = some v) : xStill P (sLoad T (.pointer (some a))) v w B ↔ B := xStill_of (load1 h hc)
theorem stillN {B : Prop} {b o : Nat} {l : List Value} (h : aggB P T l.length = true) (hc : At w b o l) : xStill P (sLoad T (.pointer (some ⟨b, o, none⟩))) (.agg l.toArray) w B ↔ B := xStill_of (loadN h hc)

theorem xP_IAn {K : Value → Prop} {E : TypeId} {b o n c sz i : Nat} {q : IntKind} (h : sliceB P T E = true) (hs : sizeB P E sz = true) (h1 : i < n) :
    xP P (sIA T (.slice (some ⟨b, o, none⟩) n c) (.int q i)) K ↔ K (.pointer (some ⟨b, o + i * sz, none⟩)) := by
  have := xP_IA (K := K) (b := b) (o := o) (n := n) (c := c) (q := q) (i := (i : Int)) h hs (by omega) (by omega)
  rwa [Int.toNat_natCast] at this
theorem at_one {b o : Nat} {v : Value} (h : At w b o [v]) : w.cell? ⟨b, o, none⟩ = some v := h 0 (by simp)

def intB (P : Program) (T : TypeId) (k : IntKind) : Prop := P.underlying T = some (.int k)
theorem xP_conv {K : Value → Prop} {s d : TypeId} {k k' : IntKind} {n : Int} (hs : intB P s k) (hd : intB P d k') : xP P (sConv s d (.int k n)) K ↔ K (.int k' (k'.wrap n)) :=
  xP_of fun w => by
    unfold intB at hs hd
    unfold sConv
    rw [run_value]
    simp [convert, underlying, hs, hd, Conv.intToInt]
theorem xP_shr {K : Value → Prop} {k yk : IntKind} {x y : Int} (h0 : 0 ≤ y) : xP P (sBin .shr T (.int k x) (.int yk y)) K ↔ K (.int k (x / 2 ^ min y.toNat k.bits)) :=
  xP_of fun w => by
    unfold sBin
    rw [run_value]
    simp [binOp, shift_shr_any k yk x y h0]
theorem xP_shl {K : Value → Prop} {k yk : IntKind} {x y : Int} (h0 : 0 ≤ y) : xP P (sBin .shl T (.int k x) (.int yk y)) K ↔ K (.int k (k.wrap (x * 2 ^ min y.toNat k.bits))) :=
  xP_of fun w => by
    unfold sBin
    rw [run_value]
    simp [binOp, shift_shl_any k yk x y h0]
theorem wrapU64 {x : Int} (h1 : 0 ≤ x) (h2 : x ≤ 18446744073709551615) : IntKind.u64.wrap x = x := by
  simp only [IntKind.wrap, IntKind.bits, IntKind.signed]
  simp
  omega

def ptrB (P : Program) (T : TypeId) : Prop := P.underlying T = some (.pointer (P.pointee T))
theorem xR_pnil {K : Value → Prop} {p : Option Addr} {c : Bool} (h : ptrB P T) : xR P (sEq .eql T c (.pointer p) (.pointer none)) w K ↔ K (.bool p.isNone) :=
  xR_of (by
    unfold sEq
    rw [run_value]
    have : eqGuard .eql T (bif c then .const undef else .tmp 0) (.tmp 0) (.pointer p) (.pointer none) = pure () := by cases c <;> rfl
    rw [this]
    simp only [pure_bind]
    rw [run_eql_pointer_nil w T p h]
    rfl)
def fieldOneB (P : Program) (T : TypeId) (f off : Nat) : Bool := match P.underlying T with
  | some (.struct fs) => match fs[f]? with
    | some x => Nat.beq x.offset off && oneB P x.type
    | none => false
  | _ => false
theorem xP_field {K : Value → Prop} {f off : Nat} {cs : Array Value} {v : Value} (h : fieldOneB P T f off = true) (hv : cs[off]? = some v) : xP P (sField T (.agg cs) f) K ↔ K v := by
  refine xP_of fun w => ?_
  unfold fieldOneB at h
  split at h
  · rename_i fs hu
    split at h
    · rename_i x hx
      simp only [Bool.and_eq_true] at h
      unfold sField
      rw [run_value]
      have ho := Nat.eq_of_beq_eq_true h.1
      simp only [Instr.field, Sem.run_bind, underlying, run_program, Result.andThen_ok, hu, Sem.run_pure, hx, asAgg, pure_bind, part, isAgg_one h.2, Bool.false_eq_true, if_false, ho, hv]
    · cases h
  · cases h

theorem Gives.law {f : FuncId} {args : Array Value} (h : Gives P f args w fun v w' => v = .bool true ∧ Kept [] w w') : Calls P f args w fun e w' => e = .returned (.bool true) ∧ Below w.heap.size w w' :=
  Calls.mono h (fun e w' he => by
    cases e with
    | returned v => exact ⟨by rw [he.1], he.2.below⟩
    | panicked _ => exact he.elim
    | outgrown => exact he.elim)

theorem wrap64 {x : Int} (h1 : -9223372036854775808 ≤ x) (h2 : x ≤ 9223372036854775807) : IntKind.i64.wrap x = x := by
  rw [IntKind.wrap_i64]
  omega
end

/-! ## Slices that are only read -/
/-- The slice value v reads as the list l, each element as 'enc' says. -/
def SlT {α : Type} (w : World) (enc : α → List Value) (v : Value) (l : List α) : Prop :=
  ∃ a c, v = .slice a l.length c ∧ l.length ≤ c ∧ (l = [] ∨ ∃ b o, a = some ⟨b, o, none⟩ ∧ At w b o (l.flatMap enc))

section
variable {α : Type} {w w' : World} {enc : α → List Value} {v : Value} {l : List α}
theorem flat_len {sz : Nat} (h : ∀ x, (enc x).length = sz) (l : List α) : (l.flatMap enc).length = l.length * sz := by
  induction l with
  | nil => simp
  | cons x l ih => simp [ih, h, Nat.add_mul, Nat.add_comm]
theorem flat_drop {sz : Nat} (h : ∀ x, (enc x).length = sz) : ∀ (l : List α) (i : Nat), (l.flatMap enc).drop (i * sz) = (l.drop i).flatMap enc
  | [], i => by simp
  | x :: l, 0 => by simp
  | x :: l, i + 1 => by
    rw [List.flatMap_cons, List.drop_succ_cons, ← flat_drop h l i, Nat.add_mul, Nat.one_mul, Nat.add_comm (i * sz) sz, ← List.drop_drop]
    congr 1
    rw [← h x]
    exact List.drop_left
theorem flat_take {sz : Nat} (h : ∀ x, (enc x).length = sz) : ∀ (l : List α) (i : Nat), (l.flatMap enc).take (i * sz) = (l.take i).flatMap enc
  | [], i => by simp
  | x :: l, 0 => by simp
  | x :: l, i + 1 => by
    rw [List.flatMap_cons, List.take_succ_cons, List.flatMap_cons, ← flat_take h l i, Nat.add_mul, Nat.one_mul, Nat.add_comm (i * sz) sz]
    rw [← h x, List.take_length_add_append]
theorem at_elem {b o sz i : Nat} {x : α} (h : ∀ x, (enc x).length = sz) (ha : At w b o (l.flatMap enc)) (hx : l[i]? = some x) : At w b (o + i * sz) (enc x) := by
  have h1 := ha.sub (i * sz) sz
  rw [flat_drop h] at h1
  obtain ⟨hi, rfl⟩ := List.getElem?_eq_some_iff.1 hx
  rw [List.drop_eq_getElem_cons hi, List.flatMap_cons, ← h l[i], List.take_left] at h1
  rw [← h l[i]]
  exact h1
theorem SlT.kept {M : List Nat} (h : SlT w enc v l) (hk : Kept M w w') (hb : ∀ b o n c, v = .slice (some ⟨b, o, none⟩) n c → b ∉ M) : SlT w' enc v l := by
  obtain ⟨a, c, rfl, hc, hr⟩ := h
  refine ⟨a, c, rfl, hc, hr.imp id (fun ⟨b, o, ha, hat⟩ => ⟨b, o, ha, hat.kept hk (hb b o _ _ (by rw [ha]))⟩)⟩
theorem SlT.kept0 (h : SlT w enc v l) (hk : Kept [] w w') : SlT w' enc v l := h.kept hk (by simp)
theorem Own.slT {E : TypeId} {sz : Nat} {F : List Nat} (h : Own w E sz v l.length (l.flatMap enc) F) (hsz : ∀ x, (enc x).length = sz) (hp : 0 < sz) : SlT w enc v l := by
  obtain ⟨a, c, hv, hc, hr⟩ := h.slice
  refine ⟨a, c, hv, hc, ?_⟩
  rcases hr with hr | ⟨b, o, ha, _, hat⟩
  · left
    have := flat_len hsz l
    rw [hr] at this
    simp only [List.length_nil] at this
    have h0 : l.length = 0 := by
      rcases Nat.eq_zero_or_pos l.length with h | h
      · exact h
      · have := Nat.mul_pos h hp; omega
    exact List.eq_nil_of_length_eq_zero h0
  · exact .inr ⟨b, o, ha, hat⟩
end
def encI (n : Int) : List Value := [.int .i64 n]
theorem encI_len (n : Int) : (encI n).length = 1 := rfl
theorem flat_int (l : List Int) : l.flatMap encI = l.map (Value.int .i64) := by
  induction l with
  | nil => rfl
  | cons x l ih => rw [List.flatMap_cons, ih]; rfl
section
variable {P : Program} {w : World} {T : TypeId}
theorem slT_row {x : Addr} {len cap : Nat} {zs : List Int} {f : Int → Value} (hl : len ≤ cap) (hz : zs.length = cap) (hc : ∀ i, i < zs.length → w.cell? (x.add i) = some (f (zs.getD i 0))) :
    SlT w (fun n => [f n]) (.slice (some x) len cap) (zs.take len) ∧ (zs.take len).length = len := by
  have hlen : (zs.take len).length = len := by rw [List.length_take]; omega
  refine ⟨⟨some x, cap, by rw [hlen], by omega, ?_⟩, hlen⟩
  rcases Nat.eq_zero_or_pos len with h0 | h0
  · subst h0; exact .inl (by simp)
  · right
    have h1 := hc 0 (by omega)
    obtain ⟨b, o, s⟩ := x
    have hs : s = none := by
      cases s with
      | none => rfl
      | some k =>
        unfold World.cell? Addr.add at h1
        simp at h1
        split at h1 <;> simp at h1
    subst hs
    refine ⟨b, o, rfl, fun j hj => ?_⟩
    have hfl : ((zs.take len).flatMap fun n => [f n]) = (zs.take len).map f := by
      induction zs.take len with
      | nil => rfl
      | cons x l ih => rw [List.flatMap_cons, ih]; rfl
    rw [hfl] at hj ⊢
    rw [List.length_map, hlen] at hj
    have := hc j (by omega)
    rw [add_none] at this
    rw [this, List.getElem?_map, List.getElem?_take_of_lt hj]
    simp [List.getD, show j < zs.length by omega]
theorem slT_none {α : Type} {enc : α → List Value} {len cap : Nat} (h : len = 0) : SlT w enc (.slice none len cap) ([] : List α) := by
  subst h; exact ⟨none, cap, rfl, by simp, .inl rfl⟩

end
theorem at_cell {w : World} {b o j : Nat} {l : List Value} {v : Value} (h : At w b o l) (hv : l[j]? = some v) : w.cell? ⟨b, o + j, none⟩ = some v :=
  (h j (List.getElem?_eq_some_iff.1 hv).1).trans hv
theorem xP_and {P : Program} {T : TypeId} {K : Value → Prop} {k : IntKind} {a b : Int} : xP P (sBin .and T (.int k a) (.int k b)) K ↔ K (.int k (k.wrap (BitVec.ofInt k.bits a &&& BitVec.ofInt k.bits b).toNat)) := xP_of fun w => by simp [sBin, binOp, Op.intBits]
theorem xP_or {P : Program} {T : TypeId} {K : Value → Prop} {k : IntKind} {a b : Int} : xP P (sBin .or T (.int k a) (.int k b)) K ↔ K (.int k (k.wrap (BitVec.ofInt k.bits a ||| BitVec.ofInt k.bits b).toNat)) := xP_of fun w => by simp [sBin, binOp, Op.intBits]
theorem xP_xor {P : Program} {T : TypeId} {K : Value → Prop} {k : IntKind} {a b : Int} : xP P (sBin .xor T (.int k a) (.int k b)) K ↔ K (.int k (k.wrap (BitVec.ofInt k.bits a ^^^ BitVec.ofInt k.bits b).toNat)) := xP_of fun w => by simp [sBin, binOp, Op.intBits]
theorem wf_i64 {n : Int} (h : (Lit.int .i64 n).wf = true) : -9223372036854775808 ≤ n ∧ n ≤ 9223372036854775807 := by
  simpa [Lit.wf, IntKind.min, IntKind.max, IntKind.signed, IntKind.bits] using h
end Go.X
