import Derived.Test.YtbfaglbfpmnnmaaDoorXOpen
import Derived.Deep.Upon
import Derived.Laws.BytesString
import Derived.Laws.MakeOwn
import Derived.Lib.ConvBytes
namespace Go.X
set_option linter.unusedSimpArgs false
set_option linter.unusedVariables false
open Go Go.RowKit

section
variable {P : Program} {w : World} {T E : TypeId} {sz bytes : Nat} {z : Value} {v : Value} {n : Nat} {xs : List Value} {F : List Nat}

/-! ## append, whatever is appended -/
theorem append_src (he : ElemB P T E sz bytes z) (h : Own w E sz v n xs F) {tx : TypeId} {x : Value} {m : Nat} {news : List Value} (hs : Src P sz tx x m news w)
    (hb : (n + m) * bytes ≤ 140737488355328) (h63 : n + m ≤ maxLen) :
    ∃ v' w' F', (Builtin.append_ #[T, tx] 0 #[v, x]).run P w = .ok v' w' ∧ Own w' E sz v' (n + m) (xs ++ news) F' ∧ Kept F w w' ∧ (∀ g ∈ F', g ∈ F ∨ (w.heap.size ≤ g ∧ w.heap.size < w'.heap.size)) := by
  obtain ⟨hu, i, hi, hz, hsi, hby⟩ := he.info
  subst hsi
  have hl := hs.newsLen
  have hlen : (xs ++ news).length = (n + m) * i.size := by rw [List.length_append, h.1, hl, Nat.add_mul]
  by_cases hm0 : m = 0
  · subst hm0
    have hn0 : news = [] := List.eq_nil_of_length_eq_zero (by simpa using hl)
    subst hn0
    obtain ⟨a, c, rfl, hnc, _⟩ := h.slice
    exact ⟨_, w, F, run_append_nothing w T tx 0 E i hu hi a n c hnc x hs, by simpa using h, Kept.refl _ _, fun g hg => .inl hg⟩
  have hm : 0 < m := by omega
  have hsmall : ((n + m : Nat) : Int) ≤ 9223372036854775807 := by simp only [maxLen] at h63; omega
  have grown : ∀ (old : Nat), Own (w.drew.alloc (.cells ((xs ++ news).toArray ++ Builtin.zeroCells z.cells (grownCap w (n + m) old E - (n + m))) E)) E i.size
        (.slice (some ⟨w.heap.size, 0, none⟩) (n + m) (grownCap w (n + m) old E)) (n + m) (xs ++ news) [w.heap.size] ∧
      Kept F w (w.drew.alloc (.cells ((xs ++ news).toArray ++ Builtin.zeroCells z.cells (grownCap w (n + m) old E - (n + m))) E)) := by
    intro old
    have hge := grownCap_ge w (n + m) old E
    have hcm : grownCap w (n + m) old E ≤ maxLen := grownCap_le_maxLen w (n + m) old E h63
    have hsz := size_zeroCells z.cells (grownCap w (n + m) old E - (n + m))
    rw [he.zs] at hsz
    refine ⟨⟨hlen, .inr ⟨w.heap.size, 0, _, xs ++ news ++ (Builtin.zeroCells z.cells (grownCap w (n + m) old E - (n + m))).toList, rfl, rfl, ?_, hge, hcm, ?_, ?_⟩⟩, (kept_drew F w).alloc _⟩
    · have : ((xs ++ news).toArray ++ Builtin.zeroCells z.cells (grownCap w (n + m) old E - (n + m))) = (xs ++ news ++ (Builtin.zeroCells z.cells (grownCap w (n + m) old E - (n + m))).toList).toArray := by simp
      rw [this]
      exact blk_alloc w.drew E _
    · rw [List.length_append, hlen, Array.length_toList, hsz, Nat.sub_mul]
      have := Nat.mul_le_mul_right i.size hge
      omega
    · rw [List.drop_zero, ← hlen]
      exact List.take_left
  rcases h.2 with ⟨rfl, rfl, rfl⟩ | ⟨g, o', cap, cur, rfl, rfl, hg, hnc, hcm, hcs, htake⟩
  · have hx0 : xs = [] := List.eq_nil_of_length_eq_zero (by simpa using h.1)
    subst hx0
    have hr := run_append_grow_src (P := P) w T tx 0 E i z hu hi hz none 0 0 [] (run_firstCells_none w.drew i.size 0 0 0) x m news hs (by omega) (by simpa using hsmall)
      (growslice_fits (by omega) (by rw [hby]; exact hb))
    have hgr := grown 0
    exact ⟨_, _, _, hr, hgr.1, hgr.2, fun g hg => .inr ⟨by simp at hg; omega, by simp⟩⟩
  · by_cases hroom : n + m ≤ cap
    · have hmul : (n + m) * i.size ≤ cap * i.size := Nat.mul_le_mul_right _ hroom
      have hxl := h.1
      have hsplit : cur = cur.take (o' + n * i.size) ++ (cur.drop (o' + n * i.size)).take (m * i.size) ++ cur.drop (o' + (n + m) * i.size) := by
        rw [Nat.add_mul, ← Nat.add_assoc, ← List.drop_drop (i := m * i.size), List.append_assoc, List.take_append_drop, List.take_append_drop]
      have hll : ((cur.drop (o' + n * i.size)).take (m * i.size)).length = m * i.size := by
        rw [List.length_take, List.length_drop]
        rw [Nat.add_mul] at hmul
        omega
      obtain ⟨w', hst, hb', hk', hsz'⟩ := storeCells_run (P := P) g (o' + n * i.size) E news (cur.take (o' + n * i.size)) ((cur.drop (o' + n * i.size)).take (m * i.size)) (cur.drop (o' + (n + m) * i.size)) w 0 (hsplit ▸ hg) (by rw [hll, hl]) hs.one (by rw [List.length_take]; rw [Nat.add_mul] at hmul; omega)
      have hrun : (Builtin.append_ #[T, tx] 0 #[.slice (some ⟨g, o', none⟩) n cap, x]).run P w = .ok (.slice (some ⟨g, o', none⟩) (n + m) cap) w' := by
        rcases hs.kind with ⟨e', hk⟩ | hk <;> simp [Builtin.append_, run_underlying hu, run_underlying hk, sizeOf, typeInfo, hi, hs.len, hroom, hs.cells, add_none, hst]
      have hc1 : (cur.take (o' + n * i.size)).length = o' + n * i.size := by rw [List.length_take]; rw [Nat.add_mul] at hmul; omega
      refine ⟨_, _, [g], hrun, ⟨hlen, .inr ⟨g, o', cap, _, rfl, rfl, hb', hroom, hcm, ?_, ?_⟩⟩, hk', fun g' hg' => .inl hg'⟩
      · rw [List.length_append, List.length_append, hc1, hl, List.length_drop]
        rw [Nat.add_mul] at hmul ⊢
        omega
      · rw [List.append_assoc, List.drop_append_of_le_length (by omega), List.drop_take, Nat.add_sub_cancel_left, htake, ← List.append_assoc, ← hlen]
        exact List.take_left
    · have holds : ∀ j u, xs[j]? = some u → w.drew.cell? ((⟨g, o', none⟩ : Addr).add j) = some u := by
        intro j u hj
        have hat := hg.at.sub o' (n * i.size)
        rw [htake, Nat.zero_add] at hat
        have := hat j (List.getElem?_eq_some_iff.1 hj).1
        rw [add_none, World.cell?_drew, this, hj]
      have hr := run_append_grow_src (P := P) w T tx 0 E i z hu hi hz (some ⟨g, o', none⟩) n cap xs (run_firstCells_some w.drew i.size n ⟨g, o', none⟩ n cap xs h.1 holds) x m news hs (by omega) hsmall
        (growslice_fits (by omega) (by rw [hby]; exact hb))
      have hgr := grown cap
      exact ⟨_, _, _, hr, hgr.1, hgr.2, fun g' hg' => .inr ⟨by simp at hg'; omega, by simp⟩⟩

theorem xE_appendSrc {K : Value → World → Prop} (he : ElemB P T E sz bytes z) (h : Own w E sz v n xs F) {tx : TypeId} {x : Value} {m : Nat} {news : List Value} (hs : Src P sz tx x m news w)
    (hb : (n + m) * bytes ≤ 140737488355328) (h63 : n + m ≤ maxLen)
    (k : ∀ v' w' F', Own w' E sz v' (n + m) (xs ++ news) F' → Kept F w w' → (∀ g ∈ F', g ∈ F ∨ w.heap.size ≤ g) → v'.oneCell' = true → K v' w') :
    xE P (sB .append #[T, tx] #[v, x]) w K := by
  obtain ⟨v', w', F', hr, ho, hk, hf⟩ := append_src (P := P) he h hs hb h63
  refine (xE_of (v := v') (w' := w') ?_).2 (k v' w' F' ho hk (fun g hg => (hf g hg).imp id (·.1)) ?_)
  · show (do pure (Next.value (← Builtin.append_ #[T, tx] 0 #[v, x])) : Sem Next).run P w = _
    exact run_sB P _ w hr
  · rcases ho.2 with ⟨rfl, _⟩ | ⟨_, _, _, _, rfl, _⟩ <;> rfl


/-! ## Strings -/
def strB (P : Program) (T : TypeId) : Prop := P.underlying T = some .string
theorem xP_lenS {K : Value → Prop} {s : ByteArray} (h : strB P T) : xP P (sB .len #[T] #[.string s]) K ↔ K (.int .i64 s.size) := by
  refine xP_of fun w => ?_
  unfold strB at h
  unfold sB
  simp [builtin, Builtin.len_, run_underlying h, goInt]
theorem xP_idxS {K : Value → Prop} {s : ByteArray} {q : IntKind} {i : Nat} (h : strB P T) (hi : i < s.size) : xP P (sIndex T (.string s) (.int q i)) K ↔ K (.int .u8 (s[i]'hi).toNat) := by
  refine xP_of fun w => ?_
  unfold strB at h
  unfold sIndex
  rw [run_value]
  have hg : s[i]? = some (s[i]'hi) := by simp [hi]
  simp [Instr.index, asIntOf, run_underlying h, hg]
theorem xP_sliceS {K : Value → Prop} {s : ByteArray} {q q' : IntKind} {i j : Int} (h : strB P T) (h0 : 0 ≤ i) (h1 : i ≤ j) (h2 : j ≤ s.size) :
    xP P (sSlice T (.string s) (some (.int q i)) (some (.int q' j)) none) K ↔ K (.string (s.extract i.toNat j.toNat)) := by
  refine xP_of fun w => ?_
  unfold strB at h
  unfold sSlice
  rw [run_value]
  obtain ⟨j, rfl⟩ := Int.eq_ofNat_of_zero_le (show 0 ≤ j by omega)
  obtain ⟨i, rfl⟩ := Int.eq_ofNat_of_zero_le h0
  have h1' : i ≤ j := by omega
  have h2' : j ≤ s.size := by omega
  simp [Instr.sliceAt, Instr.slice, run_underlying h, Instr.sliceBounds, Instr.sliceBound, asIntOf, h1', h2']
theorem xP_toS {K : Value → Prop} {s : ByteArray} {q' : IntKind} {j : Int} (h : strB P T) (h1 : 0 ≤ j) (h2 : j ≤ s.size) :
    xP P (sSlice T (.string s) none (some (.int q' j)) none) K ↔ K (.string (s.extract 0 j.toNat)) := by
  refine xP_of fun w => ?_
  unfold strB at h
  unfold sSlice
  rw [run_value]
  simp [Instr.sliceAt, Instr.slice, run_underlying h, Instr.sliceBounds, Instr.sliceBound, asIntOf, h1, h2]
theorem xP_fromS {K : Value → Prop} {s : ByteArray} {q : IntKind} {i : Int} (h : strB P T) (h1 : 0 ≤ i) (h2 : i ≤ s.size) :
    xP P (sSlice T (.string s) (some (.int q i)) none none) K ↔ K (.string (s.extract i.toNat s.size)) := by
  refine xP_of fun w => ?_
  unfold strB at h
  unfold sSlice
  rw [run_value]
  simp [Instr.sliceAt, Instr.slice, run_underlying h, Instr.sliceBounds, Instr.sliceBound, asIntOf, h1, h2]
theorem xP_addS {K : Value → Prop} {s t : ByteArray} (h : s.size + t.size ≤ 9223372036854775807) : xP P (sBin .add T (.string s) (.string t)) K ↔ K (.string (s ++ t)) := by
  refine xP_of fun w => ?_
  unfold sBin
  rw [run_value]
  have h1 : ¬ (((s.size + t.size : Nat) : Int) > IntKind.i64.max) := by
    rw [show IntKind.i64.max = 9223372036854775807 from by decide]
    omega
  simp only [binOp, Op.stringOp, h1, if_false]
  rfl
theorem str_eq (a b : ByteArray) : (a.toList == b.toList) = decide (a = b) := by
  have e : ∀ x : ByteArray, x.toList = x.data.toList := fun x => ByteArray.toList_eq x
  by_cases h : a = b
  · subst h; simp
  · simp only [h, decide_false, beq_eq_false_iff_ne, ne_eq, e]
    intro h'
    apply h
    cases a; cases b
    simpa using h'
theorem xR_eqlStr {K : Value → Prop} {c : Bool} {a b : ByteArray} : xR P (sEq .eql T c (.string a) (.string b)) w K ↔ K (.bool (decide (a = b))) :=
  xR_of (by rw [← str_eq]; simp [sEq, eqGuard, binOp, Op.stringOp])
theorem xR_neqStr {K : Value → Prop} {c : Bool} {a b : ByteArray} : xR P (sEq .neq T c (.string a) (.string b)) w K ↔ K (.bool (!decide (a = b))) :=
  xR_of (by rw [← str_eq]; simp [sEq, eqGuard, binOp, Op.stringOp])

/-! ## Bytes -/
def encB (b : UInt8) : List Value := [.int .u8 b.toNat]
theorem encB_len (b : UInt8) : (encB b).length = 1 := rfl
def encS (s : ByteArray) : List Value := [.string s]
theorem encS_len (s : ByteArray) : (encS s).length = 1 := rfl
theorem flat_B (l : List UInt8) : l.flatMap encB = l.map (fun b => Value.int .u8 b.toNat) := by
  induction l with
  | nil => rfl
  | cons a l ih => simp [encB, ih]
theorem byteCells_eq (s : ByteArray) : byteCells s = s.data.toList.flatMap encB := (flat_B _).symm
theorem push_fold (l : List UInt8) (s : ByteArray) : ((l.map fun b => (b.toNat : Int)).foldl (fun r n => r.push (UInt8.ofNat n.toNat)) s) = ⟨(s.data.toList ++ l).toArray⟩ := by
  induction l generalizing s with
  | nil => simp
  | cons a l ih =>
    simp only [List.map_cons, List.foldl_cons, ih, Int.toNat_natCast, UInt8.ofNat_toNat]
    congr 1
    simp [ByteArray.push]
def bytesTy (P : Program) (T : TypeId) : Prop := ∃ e, P.underlying T = some (.slice e) ∧ P.underlying e = some (.int .u8)
theorem xE_toStr {K : Value → World → Prop} {l : List UInt8} {D : TypeId} (hT : bytesTy P T) (hD : strB P D) (h : SlT w encB v l) : xE P (sConv T D v) w K ↔ K (.string ⟨l.toArray⟩) w := by
  obtain ⟨e, h1, h2⟩ := hT
  unfold strB at hD
  obtain ⟨a, c, rfl, hc, hr⟩ := h
  refine xE_of ?_
  unfold sConv
  refine run_sB P _ w ?_
  cases a with
  | none =>
    have : l = [] := by
      rcases hr with h | ⟨b, o, h, _⟩
      · exact h
      · cases h
    subst this
    simp [convert, run_underlying h1, run_underlying h2, run_underlying hD, Conv.bytesToString]
    rfl
  | some a =>
    have hcells : (loadCells a l.length).run P w = .ok ((l.map fun b => (b.toNat : Int)).map (Value.int .u8)).toArray w := by
      rcases hr with rfl | ⟨b, o, ha, hat⟩
      · rfl
      · cases ha
        have := loadCells_run (P := P) (w := w) b (l.flatMap encB) o 0 #[] (fun j hj => by rw [add_none, Nat.zero_add]; exact hat j hj)
        rw [flat_len encB_len, Nat.mul_one] at this
        rw [loadCells, this, flat_B]
        simp
    have := run_bytesToString (P := P) w a l.length c _ hcells
    simp [convert, run_underlying h1, run_underlying h2, run_underlying hD, this, push_fold]

/-! ## make -/
theorem made_toList {z : Value} {n : Nat} (hz : z.cells.size = 1) : (madeCells z.cells n).toList = List.replicate n (z.cells[0]'(by omega)) := by
  apply List.ext_getElem
  · simp [madeCells]
  · intro i h1 h2
    simp [madeCells, hz, Nat.mod_one]
theorem xE_makeSlice {K : Value → World → Prop} (he : ElemB P T E 1 bytes z) {q q' : IntKind} {l c : Int} (h0 : 0 ≤ l) (hlc : l ≤ c) (hb : bytes * c ≤ 140737488355328) (h63 : c ≤ maxLen)
    (k : ∀ w', Own w' E 1 (.slice (some ⟨w.heap.size, 0, none⟩) l.toNat c.toNat) l.toNat (List.replicate l.toNat (z.cells[0]'(by have := he.zs; omega))) [w.heap.size] → Kept [] w w' → w'.heap.size = w.heap.size + 1 → K (.slice (some ⟨w.heap.size, 0, none⟩) l.toNat c.toNat) w') :
    xE P (sMakeSlice T (.int q l) (.int q' c)) w K := by
  obtain ⟨hu, i, hi, hz, hs, hby⟩ := he.info
  have hm : maxLen ≤ 9223372036854775807 := by unfold maxLen; omega
  have hr := run_make (P := P) w T E i z hu hi hz q q' l c h0 hlc (by rw [hby]; omega) (by omega)
  rw [hs, Nat.mul_one] at hr
  have hzs := he.zs
  refine (xE_of (v := .slice (some ⟨w.heap.size, 0, none⟩) l.toNat c.toNat) (w' := w.alloc (.cells (madeCells z.cells c.toNat) E)) ?_).2 (k _ ?_ (kept_alloc _ _ _) (by simp))
  · unfold sMakeSlice
    exact run_sB P _ w hr
  · have hml := made_toList (n := c.toNat) hzs
    have hblk : Blk (w.alloc (.cells (madeCells z.cells c.toNat) E)) w.heap.size E (List.replicate c.toNat (z.cells[0]'(by omega))) := by
      rw [← hml]
      exact blk_alloc w E _
    refine ⟨by simp, .inr ⟨w.heap.size, 0, c.toNat, _, rfl, rfl, hblk, by omega, by omega, by simp, ?_⟩⟩
    rw [List.drop_zero, List.take_replicate]
    congr 1
    omega
end
end Go.X
