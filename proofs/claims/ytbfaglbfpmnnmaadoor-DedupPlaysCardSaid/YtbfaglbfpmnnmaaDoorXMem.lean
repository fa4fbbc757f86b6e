import Derived.Test.YtbfaglbfpmnnmaaDoorXRule
namespace Go.X
set_option linter.unusedSimpArgs false
set_option linter.unusedVariables false
open Go Go.RowKit

/-! ## Memory -/
/-- Outside the blocks M all that was there is as it was. -/
structure Kept (M : List Nat) (w w' : World) : Prop where
  os : w'.os = w.os
  tape : w'.tape = w.tape
  output : w'.output = w.output
  size : w.heap.size ≤ w'.heap.size
  block : ∀ k, k < w.heap.size → k ∉ M → w'.heap[k]? = w.heap[k]?

theorem Kept.refl (M : List Nat) (w : World) : Kept M w w := ⟨rfl, rfl, rfl, Nat.le_refl _, fun _ _ _ => rfl⟩
theorem Kept.trans {M M' N : List Nat} {a b c : World} (h : Kept M a b) (h' : Kept M' b c) (hM : ∀ k ∈ M, k ∈ N ∨ a.heap.size ≤ k) (hM' : ∀ k ∈ M', k ∈ N ∨ a.heap.size ≤ k) : Kept N a c :=
  ⟨h'.os.trans h.os, h'.tape.trans h.tape, h'.output.trans h.output, Nat.le_trans h.size h'.size, fun k hk hn => by
    have h1 : k ∉ M := fun hm => (hM k hm).elim hn (fun hh => by omega)
    have h2 : k ∉ M' := fun hm => (hM' k hm).elim hn (fun hh => by omega)
    exact (h'.block k (Nat.lt_of_lt_of_le hk h.size) h2).trans (h.block k hk h1)⟩
theorem Kept.mono {M N : List Nat} {a b : World} (h : Kept M a b) (hM : ∀ k ∈ M, k ∈ N ∨ a.heap.size ≤ k) : Kept N a b :=
  (h.trans (Kept.refl [] b) hM (by simp))
theorem Kept.then {M N : List Nat} {a b c : World} (h : Kept N a b) (h' : Kept M b c) (hM : ∀ k ∈ M, k ∈ N ∨ a.heap.size ≤ k) : Kept N a c :=
  h.trans h' (fun _ hk => .inl hk) hM
theorem Kept.drew {M : List Nat} {a b : World} (h : Kept M a b) : Kept M a b.drew := ⟨h.os, h.tape, h.output, h.size, h.block⟩
theorem kept_drew (M : List Nat) (w : World) : Kept M w w.drew := ⟨rfl, rfl, rfl, Nat.le_refl _, fun _ _ _ => rfl⟩
theorem Kept.of_drew {M : List Nat} {a b : World} (h : Kept M a.drew b) : Kept M a b := ⟨h.os, h.tape, h.output, h.size, h.block⟩
theorem kept_alloc (M : List Nat) (w : World) (o : Obj) : Kept M w (w.alloc o) := ⟨rfl, rfl, rfl, by simp, fun k hk _ => Below.heap_alloc w o k hk⟩
theorem Kept.alloc {M : List Nat} {a b : World} (h : Kept M a b) (o : Obj) : Kept M a (b.alloc o) := h.then (kept_alloc [] b o) (by simp)
theorem kept_setCell (w : World) (a : Addr) (v : Value) : Kept [a.block] w (w.setCell a v) :=
  ⟨rfl, rfl, rfl, by simp, fun k _ hn => heap_setCell_other w a k v (by simpa using hn)⟩
theorem Kept.setCell {M : List Nat} {a b : World} (h : Kept M a b) (p : Addr) (v : Value) (hp : p.block ∈ M ∨ a.heap.size ≤ p.block) : Kept M a (b.setCell p v) :=
  h.then (kept_setCell b p v) (by simpa using hp)
theorem Kept.below {w w' : World} (h : Kept [] w w') : Below w.heap.size w w' := ⟨h.os, h.tape, h.output, h.size, fun k hk => h.block k hk (by simp)⟩
theorem kept_of_below {w w' : World} (h : Below w.heap.size w w') : Kept [] w w' := ⟨h.os, h.tape, h.output, h.size, fun k hk _ => h.block k hk⟩
theorem kept_of_grown {w w' : World} {r : Option Nat} (h : w.grownBy w' r) : Kept r.toList w w' :=
  ⟨h.os, h.tape, h.output, h.size, fun k hk hn => h.block k hk (by cases r <;> simp_all)⟩

/-- Block b holds the cells l, of type T; nothing of it is frozen. -/
def Blk (w : World) (b : Nat) (T : TypeId) (l : List Value) : Prop := w.heap[b]? = some (.cells l.toArray T (0, 0))
theorem Blk.lt {w : World} {b : Nat} {T : TypeId} {l : List Value} (h : Blk w b T l) : b < w.heap.size := (Array.getElem?_eq_some_iff.1 h).1
theorem Blk.kept {w w' : World} {M : List Nat} {b : Nat} {T : TypeId} {l : List Value} (h : Blk w b T l) (hk : Kept M w w') (hb : b ∉ M) : Blk w' b T l :=
  (hk.block b h.lt hb).trans h
theorem blk_alloc (w : World) (T : TypeId) (l : List Value) : Blk (w.alloc (.cells l.toArray T)) w.heap.size T l := heap_alloc_new w _
theorem Blk.set {w : World} {b o : Nat} {T : TypeId} {l : List Value} (h : Blk w b T l) (v : Value) : Blk (w.setCell ⟨b, o, none⟩ v) b T (l.set o v) := by
  unfold Blk at *
  rw [heap_setCell_same w b o _ T v h]
  simp
theorem Blk.cell {w : World} {b o : Nat} {T : TypeId} {l : List Value} (h : Blk w b T l) : w.cell? ⟨b, o, none⟩ = l[o]? := by
  rw [cell_of_row w b o _ T _ h]; simp
theorem Blk.frozen {w : World} {b o : Nat} {T : TypeId} {l : List Value} (h : Blk w b T l) : w.frozen? ⟨b, o, none⟩ = false := frozen_of_row w b o _ T h

/-- The cells l lie at place o of block b. -/
def At (w : World) (b o : Nat) (l : List Value) : Prop := ∀ j, j < l.length → w.cell? ⟨b, o + j, none⟩ = l[j]?
theorem At.kept {w w' : World} {M : List Nat} {b o : Nat} {l : List Value} (h : At w b o l) (hk : Kept M w w') (hb : b ∉ M) : At w' b o l := by
  intro j hj
  have hc := h j hj
  rw [List.getElem?_eq_getElem hj] at hc ⊢
  have hlt : b < w.heap.size := by simpa using block_lt_of_cell hc
  rw [← hc]
  exact World.cell?_of_block (w := w) (hk.block b hlt hb)
theorem At.sub {w : World} {b o : Nat} {l : List Value} (h : At w b o l) (i n : Nat) : At w b (o + i) ((l.drop i).take n) := by
  intro j hj
  simp only [List.length_take, List.length_drop] at hj
  have := h (i + j) (by omega)
  rw [List.getElem?_take_of_lt (by omega), List.getElem?_drop, ← this, Nat.add_assoc]
theorem At.take {w : World} {b o : Nat} {l : List Value} (h : At w b o l) (n : Nat) : At w b o (l.take n) := by
  simpa using h.sub 0 n
theorem At.drop {w : World} {b o : Nat} {l : List Value} (h : At w b o l) (i : Nat) : At w b (o + i) (l.drop i) := by
  have := h.sub i l.length
  rwa [List.take_of_length_le (by simp)] at this
theorem At.nil (w : World) (b o : Nat) : At w b o [] := fun j hj => by simp at hj
theorem Blk.at {w : World} {b : Nat} {T : TypeId} {l : List Value} (h : Blk w b T l) : At w b 0 l := fun j _ => by rw [Nat.zero_add]; exact h.cell
theorem at_drew {w : World} {b o : Nat} {l : List Value} (h : At w b o l) : At w.drew b o l := h
theorem blk_drew {w : World} {b : Nat} {T : TypeId} {l : List Value} (h : Blk w b T l) : Blk w.drew b T l := h

/-! ### Types -/
def oneB (P : Program) (T : TypeId) : Bool := match P.underlying T, P.info? T with
  | some (.struct _), _ => false
  | some (.array ..), _ => false
  | some _, some i => Nat.beq i.size 1
  | _, _ => false
def aggB (P : Program) (T : TypeId) (n : Nat) : Bool := match P.underlying T, P.info? T with
  | some (.struct _), some i => Nat.beq i.size n
  | some (.array ..), some i => Nat.beq i.size n
  | _, _ => false
def sliceB (P : Program) (T E : TypeId) : Bool := match P.underlying T with
  | some (.slice e) => Nat.beq e E
  | _ => false
def sizeB (P : Program) (T : TypeId) (n : Nat) : Bool := match P.info? T with
  | some i => Nat.beq i.size n
  | none => false
def bytesB (P : Program) (T : TypeId) (n : Nat) : Bool := match P.info? T with
  | some i => Nat.beq i.bytes n
  | none => false
theorem sliceB_spec {P : Program} {T E : TypeId} (h : sliceB P T E = true) : P.underlying T = some (.slice E) := by
  unfold sliceB at h
  split at h
  · rename_i e he; rw [he, Nat.eq_of_beq_eq_true h]
  · cases h
theorem sizeB_spec {P : Program} {T : TypeId} {n : Nat} (h : sizeB P T n = true) : ∃ i, P.info? T = some i ∧ i.size = n := by
  unfold sizeB at h
  split at h
  · rename_i i hi; exact ⟨i, hi, Nat.eq_of_beq_eq_true h⟩
  · cases h
theorem bytesB_spec {P : Program} {T : TypeId} {n : Nat} (h : bytesB P T n = true) : ∃ i, P.info? T = some i ∧ i.bytes = n := by
  unfold bytesB at h
  split at h
  · rename_i i hi; exact ⟨i, hi, Nat.eq_of_beq_eq_true h⟩
  · cases h

section
variable {P : Program} {w : World} {T : TypeId}
theorem isAgg_one (h : oneB P T = true) : (isAgg T).run P w = .ok false w := by
  unfold oneB at h
  unfold isAgg underlying
  cases hu : P.underlying T with
  | none => rw [hu] at h; simp at h
  | some d =>
    rw [hu] at h
    simp only [Sem.run_bind, run_program, Result.andThen_ok, hu]
    cases d <;> first | rfl | simp at h
theorem isAgg_agg {n : Nat} (h : aggB P T n = true) : (isAgg T).run P w = .ok true w := by
  unfold aggB at h
  unfold isAgg underlying
  cases hu : P.underlying T with
  | none => rw [hu] at h; simp at h
  | some d =>
    rw [hu] at h
    simp only [Sem.run_bind, run_program, Result.andThen_ok, hu]
    cases d <;> first | rfl | (cases hi : P.info? T <;> rw [hi] at h <;> simp at h)
theorem sizeOf_run {n : Nat} {i : TypeInfo} (hi : P.info? T = some i) (hs : i.size = n) : (sizeOf T).run P w = .ok n w := by
  unfold sizeOf typeInfo
  simp [hi, hs]
theorem oneB_size (h : oneB P T = true) : ∃ i, P.info? T = some i ∧ i.size = 1 := by
  unfold oneB at h
  cases hi : P.info? T with
  | none => rw [hi] at h; split at h <;> simp_all
  | some i => rw [hi] at h; exact ⟨i, rfl, by split at h <;> simp_all⟩
theorem aggB_size {n : Nat} (h : aggB P T n = true) : ∃ i, P.info? T = some i ∧ i.size = n := by
  unfold aggB at h
  split at h
  · rename_i i _ hi; exact ⟨i, hi, Nat.eq_of_beq_eq_true h⟩
  · rename_i i _ hi; exact ⟨i, hi, Nat.eq_of_beq_eq_true h⟩
  · cases h

/-! ### Loads -/
theorem load1 (h : oneB P T = true) {a : Addr} {v : Value} (hc : w.cell? a = some v) : (sLoad T (.pointer (some a))).run P w = .ok (.value v) w := by
  unfold sLoad
  rw [run_value]
  simp only [Instr.loadAt, Instr.sureAddr, pure_bind, loadVar, Sem.run_bind, isAgg_one h, Result.andThen_ok, Bool.false_eq_true, if_false, run_load, hc]

theorem loadCells_run (b : Nat) : ∀ (l : List Value) (o i : Nat) (acc : Array Value), (∀ j, j < l.length → w.cell? ((⟨b, o, none⟩ : Addr).add (i + j)) = l[j]?) →
    (loadCellsFrom ⟨b, o, none⟩ i l.length acc).run P w = .ok (acc ++ l.toArray) w := by
  intro l
  induction l with
  | nil => intro o i acc _; simp [loadCellsFrom]
  | cons v l ih =>
    intro o i acc h
    have h0 := h 0 (by simp)
    simp only [Nat.add_zero, List.getElem?_cons_zero] at h0
    simp only [List.length_cons, loadCellsFrom, Sem.run_bind, run_load, h0, Result.andThen_ok]
    rw [ih o (i + 1) (acc.push v) (fun j hj => by
      have := h (j + 1) (by simpa using hj)
      rw [show i + 1 + j = i + (j + 1) by omega]
      simpa using this)]
    simp

theorem add_none (b o j : Nat) : (⟨b, o, none⟩ : Addr).add j = ⟨b, o + j, none⟩ := by
  unfold Addr.add
  split
  · rename_i h; subst h; rfl
  · rfl

theorem loadN {b o : Nat} {l : List Value} (h : aggB P T l.length = true) (hc : At w b o l) : (sLoad T (.pointer (some ⟨b, o, none⟩))).run P w = .ok (.value (.agg l.toArray)) w := by
  obtain ⟨i, hi, hs⟩ := aggB_size h
  unfold sLoad
  rw [run_value]
  simp only [Instr.loadAt, Instr.sureAddr, pure_bind, loadVar, Sem.run_bind, isAgg_agg h, Result.andThen_ok, if_true, sizeOf_run hi hs, loadCells]
  rw [loadCells_run b l o 0 #[] (fun j hj => by rw [add_none, Nat.zero_add]; exact hc j hj)]
  simp

/-! ### Stores -/
theorem storeCells_run (b o : Nat) (T' : TypeId) : ∀ (vs l1 l2 l3 : List Value) (w : World) (i : Nat), Blk w b T' (l1 ++ l2 ++ l3) → l2.length = vs.length → (∀ v ∈ vs, v.oneCell' = true) → l1.length = o + i →
    ∃ w', (storeCells ⟨b, o, none⟩ vs i).run P w = .ok () w' ∧ Blk w' b T' (l1 ++ vs ++ l3) ∧ Kept [b] w w' ∧ w'.heap.size = w.heap.size := by
  intro vs
  induction vs with
  | nil =>
    intro l1 l2 l3 w i hb hl _ _
    have : l2 = [] := List.eq_nil_of_length_eq_zero (by simpa using hl)
    subst this
    exact ⟨w, rfl, hb, Kept.refl _ _, rfl⟩
  | cons v vs ih =>
    intro l1 l2 l3 w i hb hl h1 ho
    obtain ⟨u, l2, rfl⟩ : ∃ u l, l2 = u :: l := by
      cases l2 with
      | nil => simp at hl
      | cons u l => exact ⟨u, l, rfl⟩
    have hcell : w.cell? ⟨b, o + i, none⟩ = some u := by
      rw [hb.cell, ← ho]
      simp
    have hset := hb.set (o := o + i) v
    have hl' : (l1 ++ u :: l2 ++ l3).set (o + i) v = (l1 ++ [v]) ++ l2 ++ l3 := by
      rw [← ho]
      simp
    rw [hl'] at hset
    obtain ⟨w', hrun, hb', hk, hsz⟩ := ih (l1 ++ [v]) l2 l3 _ (i + 1) hset (by simpa using hl) (fun x hx => h1 x (List.mem_cons_of_mem _ hx)) (by simp [ho]; omega)
    refine ⟨w', ?_, by simpa using hb', ?_, by rw [hsz]; simp⟩
    · simp only [storeCells, Sem.run_bind, add_none]
      rw [run_store P w _ v .plain (h1 v List.mem_cons_self)]
      simp only [hcell, hb.frozen, Bool.false_eq_true, if_false, Result.andThen_ok]
      exact hrun
    · exact (kept_setCell w ⟨b, o + i, none⟩ v).then hk (by simp)

theorem cells_one {v : Value} (h : v.oneCell' = true) : v.cells = #[v] := by cases v <;> first | rfl | simp [Value.oneCell'] at h

/-- A store of a whole value over the cells l2 of a block. -/
theorem storeVar_run {b o : Nat} {T' : TypeId} {v : Value} {l1 l2 l3 : List Value} {n : Nat} (hsz : sizeB P T n = true) (hb : Blk w b T' (l1 ++ l2 ++ l3)) (ho : l1.length = o) (hl : l2.length = n)
    (hv : v.cells.size = n) (h1 : ∀ u ∈ v.cells.toList, u.oneCell' = true) :
    ∃ w', (sStore T (.pointer (some ⟨b, o, none⟩)) v).run P w = .ok .skip w' ∧ Blk w' b T' (l1 ++ v.cells.toList ++ l3) ∧ Kept [b] w w' ∧ w'.heap.size = w.heap.size := by
  obtain ⟨i, hi, hs⟩ := sizeB_spec hsz
  obtain ⟨w', h1, h2, h3, h4⟩ := storeCells_run (P := P) b o T' v.cells.toList l1 l2 l3 w 0 hb (by simp [hl, hv]) h1 (by omega)
  refine ⟨w', ?_, h2, h3, h4⟩
  unfold sStore
  simp only [Instr.storeAt, Instr.sureAddr, pure_bind, storeVar, Sem.run_bind, sizeOf_run hi hs, Result.andThen_ok, hv, ne_eq, not_true_eq_false, if_false]
  rw [h1]
  rfl

theorem xE_storeN {K : Value → World → Prop} {b o : Nat} {T' : TypeId} {v : Value} {l1 l2 l3 : List Value} {n : Nat} (hsz : sizeB P T n = true) (hb : Blk w b T' (l1 ++ l2 ++ l3)) (ho : l1.length = o) (hl : l2.length = n)
    (hv : v.cells.size = n) (h1 : ∀ u ∈ v.cells.toList, u.oneCell' = true)
    (k : ∀ w', Blk w' b T' (l1 ++ v.cells.toList ++ l3) → Kept [b] w w' → w'.heap.size = w.heap.size → K undef w') : xE P (sStore T (.pointer (some ⟨b, o, none⟩)) v) w K := by
  obtain ⟨w', hr, h2, h3, h4⟩ := storeVar_run (P := P) hsz hb ho hl hv h1
  exact (xE_skip hr).2 (k w' h2 h3 h4)

/-- A store of one cell. -/
theorem xE_store1 {K : Value → World → Prop} {b o : Nat} {T' : TypeId} {v : Value} {l : List Value} (hsz : sizeB P T 1 = true) (hb : Blk w b T' l) (ho : o < l.length) (h1 : v.oneCell' = true)
    (k : ∀ w', Blk w' b T' (l.set o v) → Kept [b] w w' → w'.heap.size = w.heap.size → K undef w') : xE P (sStore T (.pointer (some ⟨b, o, none⟩)) v) w K := by
  have hl : l = l.take o ++ [l[o]] ++ l.drop (o + 1) := by simp
  refine xE_storeN (l1 := l.take o) (l2 := [l[o]]) (l3 := l.drop (o + 1)) hsz (hl ▸ hb) (by simp; omega) rfl (by rw [cells_one h1]; rfl) (by rw [cells_one h1]; simpa using h1) (fun w' hb' => ?_)
  rw [cells_one h1] at hb'
  rw [show l.take o ++ #[v].toList ++ l.drop (o + 1) = l.set o v by rw [List.set_eq_take_append_cons_drop, if_pos ho]; simp] at hb'
  exact k w' hb'

/-! ### New blocks -/
theorem xE_box {K : Value → World → Prop} {v : Value} (k : ∀ w', Blk w' w.heap.size T v.cells.toList → Kept [] w w' → w'.heap.size = w.heap.size + 1 → K (.pointer (some ⟨w.heap.size, 0, none⟩)) w') : xE P (sBox T v) w K := by
  refine (xE_of (v := .pointer (some ⟨w.heap.size, 0, none⟩)) (w' := w.alloc (.cells v.cells T)) ?_).2 (k _ (blk_alloc w T v.cells.toList) (kept_alloc _ _ _) (by simp))
  unfold sBox
  rw [run_value]
  rfl
def zeroB (P : Program) (T : TypeId) (z : Value) : Prop := (P.info? T).map (·.zero) = some (some z)
theorem zero_run {z : Value} (hz : zeroB P T z) : (zeroValue T).run P w = .ok z w := by
  unfold zeroB at hz
  cases hi : P.info? T with
  | none => rw [hi] at hz; simp at hz
  | some i =>
    rw [hi] at hz
    simp at hz
    unfold zeroValue typeInfo
    simp [hi, hz]
theorem xE_alloc {K : Value → World → Prop} {z : Value} (hz : zeroB P T z)
    (k : ∀ w', Blk w' w.heap.size T z.cells.toList → Kept [] w w' → w'.heap.size = w.heap.size + 1 → K (.pointer (some ⟨w.heap.size, 0, none⟩)) w') : xE P (sAlloc T) w K := by
  refine (xE_of (v := .pointer (some ⟨w.heap.size, 0, none⟩)) (w' := w.alloc (.cells z.cells T)) ?_).2 (k _ (blk_alloc w T z.cells.toList) (kept_alloc _ _ _) (by simp))
  unfold sAlloc
  rw [run_value]
  simp only [Instr.alloc, Sem.run_bind, zero_run hz, Result.andThen_ok]
  rfl

/-! ### Addresses -/
def fieldB (P : Program) (T : TypeId) (f off : Nat) : Bool := match P.underlying T with
  | some (.struct fs) => match fs[f]? with
    | some x => Nat.beq x.offset off && (match P.info? x.type with | some i => !Nat.beq i.size 0 | none => false)
    | none => false
  | _ => false
theorem xP_FA {K : Value → Prop} {b o f off : Nat} (h : fieldB P T f off = true) : xP P (sFA T (.pointer (some ⟨b, o, none⟩)) f) K ↔ K (.pointer (some ⟨b, o + off, none⟩)) := by
  refine xP_of fun w => ?_
  unfold fieldB at h
  split at h
  · rename_i fs hu
    split at h
    · rename_i x hx
      simp only [Bool.and_eq_true] at h
      obtain ⟨h1, h2⟩ := h
      split at h2
      · rename_i i hi
        unfold sFA
        rw [run_value]
        have hsz : (sizeOf x.type).run P w = .ok i.size w := sizeOf_run hi rfl
        have hne : ¬ i.size = 0 := by
          intro h0
          rw [h0] at h2
          simp at h2
        simp only [Instr.fieldAt, Sem.run_bind, underlying, run_program, Result.andThen_ok, hu, Sem.run_pure, hx, Instr.sureAddr, fieldPlace, hsz, hne, if_false, add_none, Nat.eq_of_beq_eq_true h1]
      · cases h2
    · cases h
  · cases h

theorem xP_IA {K : Value → Prop} {E : TypeId} {b o n c sz : Nat} {q : IntKind} {i : Int} (h : sliceB P T E = true) (hs : sizeB P E sz = true) (h0 : 0 ≤ i) (h1 : i < n) :
    xP P (sIA T (.slice (some ⟨b, o, none⟩) n c) (.int q i)) K ↔ K (.pointer (some ⟨b, o + i.toNat * sz, none⟩)) := by
  refine xP_of fun w => ?_
  obtain ⟨e, he, hsz⟩ := sizeB_spec hs
  have hu := sliceB_spec h
  unfold sIA
  rw [run_value]
  simp only [Instr.indexAt, asIntOf, Sem.run_bind, underlying, run_program, Result.andThen_ok, hu, Sem.run_pure, pure_bind]
  simp [sizeOf_run he hsz, h0, h1, add_none]
theorem xP_len {K : Value → Prop} {E : TypeId} {a : Option Addr} {n c : Nat} (h : sliceB P T E = true) : xP P (sB .len #[T] #[.slice a n c]) K ↔ K (.int .i64 n) := by
  refine xP_of fun w => ?_
  have hu := sliceB_spec h
  unfold sB
  simp [builtin, Builtin.len_, underlying, hu, goInt]
theorem addr_from {b o sz l c : Nat} : (if c = l then (⟨b, o, none⟩ : Addr) else (⟨b, o, none⟩ : Addr).add (l * sz)) = (if c = l then ⟨b, o, none⟩ else ⟨b, o + l * sz, none⟩) := by
  split <;> simp [add_none]
/-- s[i:] -/
theorem xP_from {K : Value → Prop} {E : TypeId} {a : Option Addr} {n c sz : Nat} {q : IntKind} {i : Int} (h : sliceB P T E = true) (hs : sizeB P E sz = true) (h0 : 0 ≤ i) (h1 : i ≤ n) :
    xP P (sSlice T (.slice a n c) (some (.int q i)) none none) K ↔ K (.slice (if c = i.toNat then a else a.map (·.add (i.toNat * sz))) (n - i.toNat) (c - i.toNat)) := by
  refine xP_of fun w => ?_
  obtain ⟨e, he, hsz⟩ := sizeB_spec hs
  have hu := sliceB_spec h
  unfold sSlice
  rw [run_value]
  simp [Instr.sliceAt, Instr.slice, underlying, hu, Instr.sliceBounds, Instr.sliceBound, asIntOf, h0, h1, sizeOf_run he hsz]
end
end Go.X
