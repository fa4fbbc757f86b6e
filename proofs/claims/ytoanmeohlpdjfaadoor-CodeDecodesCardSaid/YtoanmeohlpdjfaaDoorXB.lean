import Derived.Test.YtoanmeohlpdjfaaDoorXA
import Derived.Deep.Slices
import Derived.Deep.Fields
import Derived.ChangeSame
import Derived.ProofKit
import Derived.Deep.Upon
import Derived.Laws.BytesString
import Derived.Laws.MakeOwn
import Derived.Lib.ConvBytes
import Derived.MapKept
import Derived.ChangeMaps5
import Derived.Stop.Asserts
import Derived.Laws.Externs
import Derived.Laws.IdiomRangeMap
import Derived.Laws.IdiomCopy
/-! XOpen -/
namespace Go.X
set_option linter.unusedSimpArgs false
set_option linter.unusedVariables false
open Go Go.RowKit Go.ChangeShapes Go.WideShapes Go.Deep

/-! ## Structs of ints, compared -/
def intAt (xs : Array Value) (o : Nat) : Int := match xs[o]? with
  | some (.int _ n) => n
  | _ => 0
def intFieldB (P : Program) (f : Field) : Bool := (match P.underlying f.type with | some (.int k) => (match k with | .i64 => true | _ => false) | _ => false) && !(f.name == "_")
def structB (P : Program) (T : TypeId) (offs : List Nat) : Prop :=
  P.underlying T = some (.struct (P.fieldsOf T)) ∧ P.stoodInHeld T = false ∧ P.eqGuardType P.depth T = false ∧ (P.fieldsOf T).toList.all (intFieldB P) = true ∧ (P.fieldsOf T).toList.map (·.offset) = offs
section
variable {P : Program} {w : World} {T : TypeId}
theorem intField_one {f : Field} (h : intFieldB P f = true) : P.underlying f.type = some (.int .i64) ∧ (f.name == "_") = false := by
  unfold intFieldB at h
  simp only [Bool.and_eq_true, Bool.not_eq_true'] at h
  refine ⟨?_, h.2⟩
  have h1 := h.1
  split at h1
  · rename_i k hk
    cases k <;> first | exact hk | cases h1
  · cases h1
theorem isAgg_int {t : TypeId} (h : P.underlying t = some (.int .i64)) : (isAgg t).run P w = .ok false w := by
  unfold isAgg underlying
  simp [h]
theorem eqFields_ints {xs ys : Array Value} (hx : ∀ o, o < xs.size → ∃ n, xs[o]? = some (.int .i64 n)) (hy : ∀ o, o < ys.size → ∃ n, ys[o]? = some (.int .i64 n)) (d : Nat) : ∀ (fs : List Field), fs.all (intFieldB P) = true →
    (∀ f ∈ fs, f.offset < xs.size ∧ f.offset < ys.size) →
    (Op.eqFields (d + 1) xs ys fs).run P w = .ok (fs.all fun f => intAt xs f.offset == intAt ys f.offset) w
  | [], _, _ => rfl
  | f :: fs, h, hb => by
    simp only [List.all_cons, Bool.and_eq_true] at h
    obtain ⟨h1, h2⟩ := intField_one h.1
    obtain ⟨hb1, hb2⟩ := hb f List.mem_cons_self
    obtain ⟨a, ha⟩ := hx f.offset hb1
    obtain ⟨b, hb'⟩ := hy f.offset hb2
    have hne : f.name ≠ "_" := by simpa using h2
    have ih := eqFields_ints hx hy d fs h.2 (fun g hg => hb g (List.mem_cons_of_mem _ hg))
    have ea : intAt xs f.offset = a := by unfold intAt; rw [ha]
    have eb : intAt ys f.offset = b := by unfold intAt; rw [hb']
    simp only [Op.eqFields, hne, ne_eq, not_false_eq_true, if_true, Sem.run_bind, part, isAgg_int h1, Result.andThen_ok, Bool.false_eq_true, if_false, ha, hb', Sem.run_pure, run_equalIn_int w d f.type .i64 .i64 a b h1, List.all_cons, ea, eb]
    cases hab : (a == b)
    · simp
    · simp [ih]
theorem eq_struct {xs ys : Array Value} {offs : List Nat} (h : structB P T offs) (hx : ∀ o, o < xs.size → ∃ n, xs[o]? = some (.int .i64 n)) (hy : ∀ o, o < ys.size → ∃ n, ys[o]? = some (.int .i64 n)) (ho : ∀ o ∈ offs, o < xs.size ∧ o < ys.size) :
    (Op.equalIn 10000 T (.agg xs) (.agg ys)).run P w = .ok (offs.all fun o => intAt xs o == intAt ys o) w := by
  obtain ⟨h1, h2, h3, h4, h5⟩ := h
  rw [run_equalIn_struct w 9999 T xs ys h1 h2, eqFields_ints hx hy 9998 _ h4 (fun f hf => ho _ (by rw [← h5]; exact List.mem_map_of_mem hf)), ← h5, List.all_map]
  rfl
theorem run_sEq_agg {op : BinOp} {c : Bool} {xs ys : Array Value} (h3 : P.eqGuardType P.depth T = false) :
    (sEq op T c (.agg xs) (.agg ys)).run P w = ((binOp op T (.agg xs) (.agg ys)).run P w).andThen fun v w' => .ok (.value v) w' := by
  unfold sEq
  rw [run_value, Sem.run_bind, run_eqGuard_agg (w := w) op T _ _ xs ys h3]
  rfl
theorem xR_neqS {K : Value → Prop} {c : Bool} {xs ys : Array Value} {offs : List Nat} (h : structB P T offs) (hx : ∀ o, o < xs.size → ∃ n, xs[o]? = some (.int .i64 n)) (hy : ∀ o, o < ys.size → ∃ n, ys[o]? = some (.int .i64 n)) (ho : ∀ o ∈ offs, o < xs.size ∧ o < ys.size) :
    xR P (sEq .neq T c (.agg xs) (.agg ys)) w K ↔ K (.bool (!(offs.all fun o => intAt xs o == intAt ys o))) :=
  xR_of (by rw [run_sEq_agg h.2.2.1, run_neq_struct, eq_struct h hx hy ho]; rfl)
theorem xR_eqlS {K : Value → Prop} {c : Bool} {xs ys : Array Value} {offs : List Nat} (h : structB P T offs) (hx : ∀ o, o < xs.size → ∃ n, xs[o]? = some (.int .i64 n)) (hy : ∀ o, o < ys.size → ∃ n, ys[o]? = some (.int .i64 n)) (ho : ∀ o ∈ offs, o < xs.size ∧ o < ys.size) :
    xR P (sEq .eql T c (.agg xs) (.agg ys)) w K ↔ K (.bool (offs.all fun o => intAt xs o == intAt ys o)) :=
  xR_of (by rw [run_sEq_agg h.2.2.1, run_eql_struct, eq_struct h hx hy ho]; rfl)
end

/-! ## Arguments -/
section
variable {H : Type} {enc : TypeId × Value → H} {P : Program} {w : World} {base : Nat} {spare : Nat → Bool} {held : Bool}
theorem open_slice_fields {t e : TypeId} {fs : Array Field} {fuel : Nat} {cs : List Value} {x : DataW H × List MemPlace} (ht : P.underlying t = some (.slice e)) (he : P.underlying e = some (.struct fs))
    (hone : oneCellFields P fs = true) (hC : P.cellsOf e = fs.size) (h : DataW.trod enc P w base spare held fuel t cs = some x) :
    (cs = [.slice none 0 0] ∧ x = (.nil, [])) ∨
    ∃ (a : Addr) (len cap m : Nat), cs = [.slice (some a) len cap] ∧ len ≤ cap ∧ cap ≤ maxLen ∧ m = (if spare a.block then cap else len) ∧
      ∀ i, i < m → ∀ (j : Nat) (f : Field), fs[j]? = some f → ∃ (n : Nat) (v : Value) (y : DataW H × List MemPlace), w.cell? (a.add (i * fs.size + j)) = some v ∧ DataW.trod enc P w base spare held n f.type [v] = some y := by
  rcases open_slice ht h with h0 | ⟨a, len, cap, m, n, D, Pl, hcs, hb, hl, hm, hmm, hx, hi⟩
  · exact .inl h0
  · refine .inr ⟨a, len, cap, m, hcs, hl, hm, hmm, fun i him j f hj => ?_⟩
    obtain ⟨cs', hc, ht'⟩ := hi i him
    rw [hC] at hc
    obtain ⟨ys, n', hn', hy, hlen, hyl, hf⟩ := DataW.trod_struct he ht'
    obtain ⟨_, hcl, hat⟩ := World.cells?_some hc
    obtain ⟨ho, hk⟩ := hone_of hone j f hj
    have hjl : j < fs.size := (Array.getElem?_eq_some_iff.1 hj).1
    have hcell := hat j hjl
    have hv : cs'[j]? = some (cs'[j]'(by omega)) := List.getElem?_eq_getElem (by omega)
    have h1 := hf j f hj
    rw [ho, hk] at h1
    have hone' : (cs'.drop j).take 1 = [cs'[j]'(by omega)] := by
      rw [List.drop_eq_getElem_cons (by omega)]
      rfl
    rw [hone'] at h1
    have hys : ys[j]? = some (ys[j]'(by omega)) := List.getElem?_eq_getElem (by omega)
    refine ⟨n', _, _, ?_, h1.trans hys⟩
    rw [← Go.Deep.add_add, hcell, hv]
end

/-- A slice of structs of k ints that came in: its cells. -/
def intsB (P : Program) (T E : TypeId) (k : Nat) : Prop :=
  P.underlying T = some (.slice E) ∧ ∃ fs, P.underlying E = some (.struct fs) ∧ oneCellFields P fs = true ∧ P.cellsOf E = fs.size ∧ fs.size = k ∧ fs.toList.all (intFieldB P) = true
theorem open_int_structs {H : Type} {enc : TypeId × Value → H} {P : Program} {w : World} {T E : TypeId} {k : Nat} (hk0 : 0 < k) (hB : intsB P T E k) {v : Value} {d : DataW H} {p : List MemPlace} (hv : ∃ a n c, v = .slice a n c)
    (h : DataW.Trod enc P w 0 (fun _ => true) true T v d p) :
    ∃ a n c, v = .slice a n c ∧ n ≤ c ∧ (n = 0 ∨ ∃ b o, a = some ⟨b, o, none⟩ ∧ ∀ i, i < n → ∀ j, j < k → ∃ x, w.cell? ⟨b, o + (i * k + j), none⟩ = some (.int .i64 x) ∧ (Lit.int .i64 x).wf = true) := by
  obtain ⟨hT, fs, hE, hone, hC, hk, hall⟩ := hB
  obtain ⟨a, n, c, rfl⟩ := hv
  obtain ⟨fuel, hf⟩ := h
  rcases open_slice_fields hT hE hone hC hf with ⟨hcs, _⟩ | ⟨x, len, cap, m, hcs, hl, hm, hmm, hi⟩
  · simp [Value.cells] at hcs
    obtain ⟨rfl, rfl, rfl⟩ := hcs
    exact ⟨none, 0, 0, rfl, Nat.le_refl _, .inl rfl⟩
  · simp [Value.cells] at hcs
    obtain ⟨rfl, rfl, rfl⟩ := hcs
    refine ⟨_, _, _, rfl, hl, ?_⟩
    simp only [if_true] at hmm
    rcases Nat.eq_zero_or_pos n with h0 | h0
    · exact .inl h0
    · right
      have hcell : ∀ i, i < n → ∀ j, j < k → ∃ y, w.cell? (x.add (i * k + j)) = some (.int .i64 y) ∧ (Lit.int .i64 y).wf = true := by
        intro i hin j hj
        have hfj : fs[j]? = some fs[j] := Array.getElem?_eq_getElem (by omega)
        obtain ⟨q, u, y, hc, ht⟩ := hi i (by omega) j _ hfj
        have hty := (intField_one (List.all_eq_true.1 hall fs[j] (by simp))).1
        obtain ⟨z, hz, _, hwf⟩ := DataW.trod_int hty ht
        simp at hz
        subst hz
        rw [hk] at hc
        exact ⟨z, hc, hwf⟩
      obtain ⟨b, o, s⟩ := x
      have h1 := hcell 0 h0 0 hk0
      have hs : s = none := by
        cases s with
        | none => rfl
        | some q =>
          obtain ⟨y, hy, _⟩ := h1
          unfold World.cell? Addr.add at hy
          simp at hy
          split at hy <;> simp at hy
      subst hs
      refine ⟨b, o, rfl, fun i hin j hj => ?_⟩
      have := hcell i hin j hj
      rwa [add_none] at this
theorem at_flat {α : Type} {w : World} {enc : α → List Value} {sz b : Nat} (hsz : ∀ x, (enc x).length = sz) : ∀ (l : List α) (o : Nat), (∀ i x, l[i]? = some x → At w b (o + i * sz) (enc x)) → At w b o (l.flatMap enc)
  | [], o, _ => At.nil _ _ _
  | x :: l, o, h => by
    rw [List.flatMap_cons]
    intro j hj
    rcases Nat.lt_or_ge j (enc x).length with hlt | hge
    · rw [List.getElem?_append_left hlt]
      have := h 0 x (by simp) j hlt
      simpa using this
    · rw [List.getElem?_append_right hge]
      have ih := at_flat hsz l (o + sz) (fun i y hy => by
        have := h (i + 1) y (by simpa using hy)
        rwa [Nat.add_mul, Nat.one_mul, Nat.add_comm (i * sz) sz, ← Nat.add_assoc] at this)
      rw [List.length_append] at hj
      have := ih (j - (enc x).length) (by omega)
      rw [hsz x] at this hge ⊢
      rwa [show o + sz + (j - sz) = o + j by omega] at this
end Go.X

/-! XStr -/
namespace Go.X
set_option linter.unusedSimpArgs false
set_option linter.unusedVariables false
open Go Go.RowKit

section
variable {P : Program} {w : World} {T E : TypeId} {sz bytes : Nat} {z : Value} {v : Value} {n : Nat} {xs : List Value} {F : List Nat}

/-! ## append, whatever is appended -/
theorem append_src (he : ElemB P T E sz bytes z) (h : Own w E sz v n xs F) {tx : TypeId} {x : Value} {m : Nat} {news : List Value} (hs : Src P sz tx x m news w)
    (hb : (n + m) * bytes ≤ 140737488355328) (h63 : n + m ≤ maxLen) :
    ∃ v' w' F', (Builtin.append_ #[T, tx] 0 #[v, x]).run P w = .ok v' w' ∧ Own w' E sz v' (n + m) (xs ++ news) F' ∧ Kept F w w' ∧ (∀ g ∈ F', g ∈ F ∨ (w.heap.size ≤ g ∧ w.heap.size < w'.heap.size)) := by
  obtain ⟨hu, i, hi, hz, hsi, hby⟩ := he.info
  subst hsi
  have hl := hs.newsLen
  have hlen : (xs ++ news).length = (n + m) * i.size := by rw [List.length_append, h.1, hl, Nat.add_mul]
  by_cases hm0 : m = 0
  · subst hm0
    have hn0 : news = [] := List.eq_nil_of_length_eq_zero (by simpa using hl)
    subst hn0
    obtain ⟨a, c, rfl, hnc, _⟩ := h.slice
    exact ⟨_, w, F, run_append_nothing w T tx 0 E i hu hi a n c hnc x hs, by simpa using h, Kept.refl _ _, fun g hg => .inl hg⟩
  have hm : 0 < m := by omega
  have hsmall : ((n + m : Nat) : Int) ≤ 9223372036854775807 := by simp only [maxLen] at h63; omega
  have grown : ∀ (old : Nat), Own (w.drew.alloc (.cells ((xs ++ news).toArray ++ Builtin.zeroCells z.cells (grownCap w (n + m) old E - (n + m))) E)) E i.size
        (.slice (some ⟨w.heap.size, 0, none⟩) (n + m) (grownCap w (n + m) old E)) (n + m) (xs ++ news) [w.heap.size] ∧
      Kept F w (w.drew.alloc (.cells ((xs ++ news).toArray ++ Builtin.zeroCells z.cells (grownCap w (n + m) old E - (n + m))) E)) := by
    intro old
    have hge := grownCap_ge w (n + m) old E
    have hcm : grownCap w (n + m) old E ≤ maxLen := grownCap_le_maxLen w (n + m) old E h63
    have hsz := size_zeroCells z.cells (grownCap w (n + m) old E - (n + m))
    rw [he.zs] at hsz
    refine ⟨⟨hlen, .inr ⟨w.heap.size, 0, _, xs ++ news ++ (Builtin.zeroCells z.cells (grownCap w (n + m) old E - (n + m))).toList, rfl, rfl, ?_, hge, hcm, ?_, ?_⟩⟩, (kept_drew F w).alloc _⟩
    · have : ((xs ++ news).toArray ++ Builtin.zeroCells z.cells (grownCap w (n + m) old E - (n + m))) = (xs ++ news ++ (Builtin.zeroCells z.cells (grownCap w (n + m) old E - (n + m))).toList).toArray := by simp
      rw [this]
      exact blk_alloc w.drew E _
    · rw [List.length_append, hlen, Array.length_toList, hsz, Nat.sub_mul]
      have := Nat.mul_le_mul_right i.size hge
      omega
    · rw [List.drop_zero, ← hlen]
      exact List.take_left
  rcases h.2 with ⟨rfl, rfl, rfl⟩ | ⟨g, o', cap, cur, rfl, rfl, hg, hnc, hcm, hcs, htake⟩
  · have hx0 : xs = [] := List.eq_nil_of_length_eq_zero (by simpa using h.1)
    subst hx0
    have hr := run_append_grow_src (P := P) w T tx 0 E i z hu hi hz none 0 0 [] (run_firstCells_none w.drew i.size 0 0 0) x m news hs (by omega) (by simpa using hsmall)
      (growslice_fits (by omega) (by rw [hby]; exact hb))
    have hgr := grown 0
    exact ⟨_, _, _, hr, hgr.1, hgr.2, fun g hg => .inr ⟨by simp at hg; omega, by simp⟩⟩
  · by_cases hroom : n + m ≤ cap
    · have hmul : (n + m) * i.size ≤ cap * i.size := Nat.mul_le_mul_right _ hroom
      have hxl := h.1
      have hsplit : cur = cur.take (o' + n * i.size) ++ (cur.drop (o' + n * i.size)).take (m * i.size) ++ cur.drop (o' + (n + m) * i.size) := by
        rw [Nat.add_mul, ← Nat.add_assoc, ← List.drop_drop (i := m * i.size), List.append_assoc, List.take_append_drop, List.take_append_drop]
      have hll : ((cur.drop (o' + n * i.size)).take (m * i.size)).length = m * i.size := by
        rw [List.length_take, List.length_drop]
        rw [Nat.add_mul] at hmul
        omega
      obtain ⟨w', hst, hb', hk', hsz'⟩ := storeCells_run (P := P) g (o' + n * i.size) E news (cur.take (o' + n * i.size)) ((cur.drop (o' + n * i.size)).take (m * i.size)) (cur.drop (o' + (n + m) * i.size)) w 0 (hsplit ▸ hg) (by rw [hll, hl]) hs.one (by rw [List.length_take]; rw [Nat.add_mul] at hmul; omega)
      have hrun : (Builtin.append_ #[T, tx] 0 #[.slice (some ⟨g, o', none⟩) n cap, x]).run P w = .ok (.slice (some ⟨g, o', none⟩) (n + m) cap) w' := by
        rcases hs.kind with ⟨e', hk⟩ | hk <;> simp [Builtin.append_, run_underlying hu, run_underlying hk, sizeOf, typeInfo, hi, hs.len, hroom, hs.cells, add_none, hst]
      have hc1 : (cur.take (o' + n * i.size)).length = o' + n * i.size := by rw [List.length_take]; rw [Nat.add_mul] at hmul; omega
      refine ⟨_, _, [g], hrun, ⟨hlen, .inr ⟨g, o', cap, _, rfl, rfl, hb', hroom, hcm, ?_, ?_⟩⟩, hk', fun g' hg' => .inl hg'⟩
      · rw [List.length_append, List.length_append, hc1, hl, List.length_drop]
        rw [Nat.add_mul] at hmul ⊢
        omega
      · rw [List.append_assoc, List.drop_append_of_le_length (by omega), List.drop_take, Nat.add_sub_cancel_left, htake, ← List.append_assoc, ← hlen]
        exact List.take_left
    · have holds : ∀ j u, xs[j]? = some u → w.drew.cell? ((⟨g, o', none⟩ : Addr).add j) = some u := by
        intro j u hj
        have hat := hg.at.sub o' (n * i.size)
        rw [htake, Nat.zero_add] at hat
        have := hat j (List.getElem?_eq_some_iff.1 hj).1
        rw [add_none, World.cell?_drew, this, hj]
      have hr := run_append_grow_src (P := P) w T tx 0 E i z hu hi hz (some ⟨g, o', none⟩) n cap xs (run_firstCells_some w.drew i.size n ⟨g, o', none⟩ n cap xs h.1 holds) x m news hs (by omega) hsmall
        (growslice_fits (by omega) (by rw [hby]; exact hb))
      have hgr := grown cap
      exact ⟨_, _, _, hr, hgr.1, hgr.2, fun g' hg' => .inr ⟨by simp at hg'; omega, by simp⟩⟩

theorem xE_appendSrc {K : Value → World → Prop} (he : ElemB P T E sz bytes z) (h : Own w E sz v n xs F) {tx : TypeId} {x : Value} {m : Nat} {news : List Value} (hs : Src P sz tx x m news w)
    (hb : (n + m) * bytes ≤ 140737488355328) (h63 : n + m ≤ maxLen)
    (k : ∀ v' w' F', Own w' E sz v' (n + m) (xs ++ news) F' → Kept F w w' → (∀ g ∈ F', g ∈ F ∨ w.heap.size ≤ g) → v'.oneCell' = true → K v' w') :
    xE P (sB .append #[T, tx] #[v, x]) w K := by
  obtain ⟨v', w', F', hr, ho, hk, hf⟩ := append_src (P := P) he h hs hb h63
  refine (xE_of (v := v') (w' := w') ?_).2 (k v' w' F' ho hk (fun g hg => (hf g hg).imp id (·.1)) ?_)
  · show (do pure (Next.value (← Builtin.append_ #[T, tx] 0 #[v, x])) : Sem Next).run P w = _
    exact run_sB P _ w hr
  · rcases ho.2 with ⟨rfl, _⟩ | ⟨_, _, _, _, rfl, _⟩ <;> rfl


/-! ## Strings -/
def strB (P : Program) (T : TypeId) : Prop := P.underlying T = some .string
theorem xP_lenS {K : Value → Prop} {s : ByteArray} (h : strB P T) : xP P (sB .len #[T] #[.string s]) K ↔ K (.int .i64 s.size) := by
  refine xP_of fun w => ?_
  unfold strB at h
  unfold sB
  simp [builtin, Builtin.len_, run_underlying h, goInt]
theorem xP_idxS {K : Value → Prop} {s : ByteArray} {q : IntKind} {i : Nat} (h : strB P T) (hi : i < s.size) : xP P (sIndex T (.string s) (.int q i)) K ↔ K (.int .u8 (s[i]'hi).toNat) := by
  refine xP_of fun w => ?_
  unfold strB at h
  unfold sIndex
  rw [run_value]
  have hg : s[i]? = some (s[i]'hi) := by simp [hi]
  simp [Instr.index, asIntOf, run_underlying h, hg]
theorem xP_sliceS {K : Value → Prop} {s : ByteArray} {q q' : IntKind} {i j : Int} (h : strB P T) (h0 : 0 ≤ i) (h1 : i ≤ j) (h2 : j ≤ s.size) :
    xP P (sSlice T (.string s) (some (.int q i)) (some (.int q' j)) none) K ↔ K (.string (s.extract i.toNat j.toNat)) := by
  refine xP_of fun w => ?_
  unfold strB at h
  unfold sSlice
  rw [run_value]
  obtain ⟨j, rfl⟩ := Int.eq_ofNat_of_zero_le (show 0 ≤ j by omega)
  obtain ⟨i, rfl⟩ := Int.eq_ofNat_of_zero_le h0
  have h1' : i ≤ j := by omega
  have h2' : j ≤ s.size := by omega
  simp [Instr.sliceAt, Instr.slice, run_underlying h, Instr.sliceBounds, Instr.sliceBound, asIntOf, h1', h2']
theorem xP_toS {K : Value → Prop} {s : ByteArray} {q' : IntKind} {j : Int} (h : strB P T) (h1 : 0 ≤ j) (h2 : j ≤ s.size) :
    xP P (sSlice T (.string s) none (some (.int q' j)) none) K ↔ K (.string (s.extract 0 j.toNat)) := by
  refine xP_of fun w => ?_
  unfold strB at h
  unfold sSlice
  rw [run_value]
  simp [Instr.sliceAt, Instr.slice, run_underlying h, Instr.sliceBounds, Instr.sliceBound, asIntOf, h1, h2]
theorem xP_fromS {K : Value → Prop} {s : ByteArray} {q : IntKind} {i : Int} (h : strB P T) (h1 : 0 ≤ i) (h2 : i ≤ s.size) :
    xP P (sSlice T (.string s) (some (.int q i)) none none) K ↔ K (.string (s.extract i.toNat s.size)) := by
  refine xP_of fun w => ?_
  unfold strB at h
  unfold sSlice
  rw [run_value]
  simp [Instr.sliceAt, Instr.slice, run_underlying h, Instr.sliceBounds, Instr.sliceBound, asIntOf, h1, h2]
theorem xP_addS {K : Value → Prop} {s t : ByteArray} (h : s.size + t.size ≤ 9223372036854775807) : xP P (sBin .add T (.string s) (.string t)) K ↔ K (.string (s ++ t)) := by
  refine xP_of fun w => ?_
  unfold sBin
  rw [run_value]
  have h1 : ¬ (((s.size + t.size : Nat) : Int) > IntKind.i64.max) := by
    rw [show IntKind.i64.max = 9223372036854775807 from by decide]
    omega
  simp only [binOp, Op.stringOp, h1, if_false]
  rfl
theorem str_eq (a b : ByteArray) : (a.toList == b.toList) = decide (a = b) := by
  have e : ∀ x : ByteArray, x.toList = x.data.toList := fun x => ByteArray.toList_eq x
  by_cases h : a = b
  · subst h; simp
  · simp only [h, decide_false, beq_eq_false_iff_ne, ne_eq, e]
    intro h'
    apply h
    cases a; cases b
    simpa using h'
theorem xR_eqlStr {K : Value → Prop} {c : Bool} {a b : ByteArray} : xR P (sEq .eql T c (.string a) (.string b)) w K ↔ K (.bool (decide (a = b))) :=
  xR_of (by rw [← str_eq]; simp [sEq, eqGuard, binOp, Op.stringOp])
theorem xR_neqStr {K : Value → Prop} {c : Bool} {a b : ByteArray} : xR P (sEq .neq T c (.string a) (.string b)) w K ↔ K (.bool (!decide (a = b))) :=
  xR_of (by rw [← str_eq]; simp [sEq, eqGuard, binOp, Op.stringOp])

/-! ## Bytes -/
def encB (b : UInt8) : List Value := [.int .u8 b.toNat]
theorem encB_len (b : UInt8) : (encB b).length = 1 := rfl
def encS (s : ByteArray) : List Value := [.string s]
theorem encS_len (s : ByteArray) : (encS s).length = 1 := rfl
theorem flat_B (l : List UInt8) : l.flatMap encB = l.map (fun b => Value.int .u8 b.toNat) := by
  induction l with
  | nil => rfl
  | cons a l ih => simp [encB, ih]
theorem byteCells_eq (s : ByteArray) : byteCells s = s.data.toList.flatMap encB := (flat_B _).symm
theorem push_fold (l : List UInt8) (s : ByteArray) : ((l.map fun b => (b.toNat : Int)).foldl (fun r n => r.push (UInt8.ofNat n.toNat)) s) = ⟨(s.data.toList ++ l).toArray⟩ := by
  induction l generalizing s with
  | nil => simp
  | cons a l ih =>
    simp only [List.map_cons, List.foldl_cons, ih, Int.toNat_natCast, UInt8.ofNat_toNat]
    congr 1
    simp [ByteArray.push]
def bytesTy (P : Program) (T : TypeId) : Prop := ∃ e, P.underlying T = some (.slice e) ∧ P.underlying e = some (.int .u8)
theorem xE_toStr {K : Value → World → Prop} {l : List UInt8} {D : TypeId} (hT : bytesTy P T) (hD : strB P D) (h : SlT w encB v l) : xE P (sConv T D v) w K ↔ K (.string ⟨l.toArray⟩) w := by
  obtain ⟨e, h1, h2⟩ := hT
  unfold strB at hD
  obtain ⟨a, c, rfl, hc, hr⟩ := h
  refine xE_of ?_
  unfold sConv
  refine run_sB P _ w ?_
  cases a with
  | none =>
    have : l = [] := by
      rcases hr with h | ⟨b, o, h, _⟩
      · exact h
      · cases h
    subst this
    simp [convert, run_underlying h1, run_underlying h2, run_underlying hD, Conv.bytesToString]
    rfl
  | some a =>
    have hcells : (loadCells a l.length).run P w = .ok ((l.map fun b => (b.toNat : Int)).map (Value.int .u8)).toArray w := by
      rcases hr with rfl | ⟨b, o, ha, hat⟩
      · rfl
      · cases ha
        have := loadCells_run (P := P) (w := w) b (l.flatMap encB) o 0 #[] (fun j hj => by rw [add_none, Nat.zero_add]; exact hat j hj)
        rw [flat_len encB_len, Nat.mul_one] at this
        rw [loadCells, this, flat_B]
        simp
    have := run_bytesToString (P := P) w a l.length c _ hcells
    simp [convert, run_underlying h1, run_underlying h2, run_underlying hD, this, push_fold]

/-! ## make -/
theorem made_toList {z : Value} {n : Nat} (hz : z.cells.size = 1) : (madeCells z.cells n).toList = List.replicate n (z.cells[0]'(by omega)) := by
  apply List.ext_getElem
  · simp [madeCells]
  · intro i h1 h2
    simp [madeCells, hz, Nat.mod_one]
theorem xE_makeSlice {K : Value → World → Prop} (he : ElemB P T E 1 bytes z) {q q' : IntKind} {l c : Int} (h0 : 0 ≤ l) (hlc : l ≤ c) (hb : bytes * c ≤ 140737488355328) (h63 : c ≤ maxLen)
    (k : ∀ w', Own w' E 1 (.slice (some ⟨w.heap.size, 0, none⟩) l.toNat c.toNat) l.toNat (List.replicate l.toNat (z.cells[0]'(by have := he.zs; omega))) [w.heap.size] → Kept [] w w' → w'.heap.size = w.heap.size + 1 → K (.slice (some ⟨w.heap.size, 0, none⟩) l.toNat c.toNat) w') :
    xE P (sMakeSlice T (.int q l) (.int q' c)) w K := by
  obtain ⟨hu, i, hi, hz, hs, hby⟩ := he.info
  have hm : maxLen ≤ 9223372036854775807 := by unfold maxLen; omega
  have hr := run_make (P := P) w T E i z hu hi hz q q' l c h0 hlc (by rw [hby]; omega) (by omega)
  rw [hs, Nat.mul_one] at hr
  have hzs := he.zs
  refine (xE_of (v := .slice (some ⟨w.heap.size, 0, none⟩) l.toNat c.toNat) (w' := w.alloc (.cells (madeCells z.cells c.toNat) E)) ?_).2 (k _ ?_ (kept_alloc _ _ _) (by simp))
  · unfold sMakeSlice
    exact run_sB P _ w hr
  · have hml := made_toList (n := c.toNat) hzs
    have hblk : Blk (w.alloc (.cells (madeCells z.cells c.toNat) E)) w.heap.size E (List.replicate c.toNat (z.cells[0]'(by omega))) := by
      rw [← hml]
      exact blk_alloc w E _
    refine ⟨by simp, .inr ⟨w.heap.size, 0, c.toNat, _, rfl, rfl, hblk, by omega, by omega, by simp, ?_⟩⟩
    rw [List.drop_zero, List.take_replicate]
    congr 1
    omega
end
end Go.X

/-! XLib -/
namespace Go.X
set_option linter.unusedSimpArgs false
set_option linter.unusedVariables false
open Go Go.RowKit

/-! ## Functions of Go's library and of the statements' books, once for all types -/
structure RowB {α : Type} (P : Program) (T E : TypeId) (sz : Nat) (enc : α → List Value) (val : α → Value) : Prop where
  sl : sliceB P T E = true
  size : sizeB P E sz = true
  len : ∀ x, (enc x).length = sz
  load : ∀ {w : World} {b o : Nat} {x : α} {K : Value → Prop}, At w b o (enc x) → (xR P (sLoad E (.pointer (some ⟨b, o, none⟩))) w K ↔ K (val x))
theorem RowB.one {α : Type} {P : Program} {T E : TypeId} {val : α → Value} (h : sliceB P T E = true) (h1 : sizeB P E 1 = true) (h2 : oneB P E = true) : RowB P T E 1 (fun x => [val x]) val :=
  ⟨h, h1, fun _ => rfl, fun hat => ld1 h2 (at_one hat)⟩
theorem RowB.agg {α : Type} {P : Program} {T E : TypeId} {sz : Nat} {enc : α → List Value} (h : sliceB P T E = true) (h1 : sizeB P E sz = true) (hl : ∀ x, (enc x).length = sz) (h2 : aggB P E sz = true) : RowB P T E sz enc (fun x => .agg (enc x).toArray) :=
  ⟨h, h1, hl, fun {_ _ _ x _} hat => ldN (l := enc x) (by rw [hl]; exact h2) hat⟩

section
variable {α : Type} {P : Program} {T E I : TypeId} {sz : Nat} {enc : α → List Value} {val : α → Value} {w : World} {R : Ending → World → Prop}

/-- An element is read. -/
theorem RowB.get (hr : RowB P T E sz enc val) {l : List α} {w' : World} {a0 : Value} {i : Nat} (hsl : SlT w enc a0 l) (hk : Kept [] w w') (hi : i < l.length) {K : Value → Prop} {q : IntKind} :
    (xP P (sIA T a0 (.int q i)) fun v => xR P (sLoad E v) w' K) ↔ K (val l[i]) := by
  obtain ⟨a, c, rfl, hc, h⟩ := hsl
  obtain ⟨b, o, rfl, hat⟩ := h.resolve_left (by intro h; subst h; simp at hi)
  rw [xP_IAn hr.sl hr.size hi]
  exact hr.load ((at_elem hr.len hat (List.getElem?_eq_getElem hi)).kept hk (by simp))

theorem xIndexFunc (hr : RowB P T E sz enc val) {p : α → Bool} {l : List α} {a0 : Value} {g : Nat} {cap : Array Value} (hg : calleeB P g = true) (hsl : SlT w enc a0 l) (hlen : l.length ≤ 9223372036854775806)
    (hcall : ∀ x ∈ l, ∀ w', Kept [] w w' → Gives P g (#[] ++ #[val x] ++ cap) w' fun u w'' => u = .bool (p x) ∧ Kept [] w' w'')
    (k : ∀ w', Kept [] w w' → R (.returned (.int .i64 (if l.findIdx p < l.length then (l.findIdx p : Int) else -1))) w') :
    (xP P (sB .len #[T] #[a0]) fun v7_1 =>
    xLoop [(.int .i64 0)] w fun J2 vs3 _ w5 =>
      xP P (sBin .lss I (vs3.getD 0 undef) v7_1) fun v9_6 =>
      xIf v9_6 (
        xP P (sIA T a0 (vs3.getD 0 undef)) fun v14_7 =>
      xR P (sLoad E v14_7) w5 fun v15_8 =>
      xE P (sCallV (.func (.func g) #[] cap) #[v15_8]) w5 fun v16_9 w10 =>
      xIf v16_9 (
        R (.returned (vs3.getD 0 undef)) w10) (
        xP P (sBin .add I (vs3.getD 0 undef) (.int .i64 1)) fun v18_11 =>
      J2 [v18_11] w10)) (
        R (.returned (.int .i64 (-1))) w5)) := by
  obtain ⟨a, c, rfl, hc, hrow⟩ := hsl
  refine (xP_len hr.sl).2 ?_
  refine xLoop_of (fun vs w' => ∃ k : Nat, vs = [.int .i64 k] ∧ k ≤ l.length ∧ (∀ j, j < k → ∀ h, l[j]? = some h → p h = false) ∧ Kept [] w w') (fun vs _ => match vs with | [.int _ k] => l.length - k.toNat | _ => 0) ⟨0, rfl, by omega, by omega, Kept.refl _ _⟩ ?_
  rintro _ _ w1 ⟨k', rfl, hk, hbefore, hkept⟩
  simp only [xP_nil, xP_pick, xP_func, xP_not, xP_add, xP_sub, xP_mul, xP_lss, xP_leq, xP_gtr, xP_geq, xP_max2, xP_min2, xR_eql, xR_neq, Nat.zero_add, Nat.add_zero, Nat.reduceAdd, List.getD_cons_zero, List.getD_cons_succ, xIf_true, xIf_false, xIf_dec]
  refine ⟨fun hlt => ?_, fun hge => ?_⟩
  · have hlt' : k' < l.length := by omega
    refine (hr.get ⟨a, c, rfl, hc, hrow⟩ hkept hlt').2 ?_
    refine xE_callV hg (hcall l[k'] (List.getElem_mem hlt') w1 hkept) ?_
    rintro _ w2 ⟨rfl, hk2⟩
    have hk3 : Kept [] w w2 := hkept.then hk2 (by simp)
    simp only [xIf_bool]
    refine ⟨fun hp => ?_, fun hp => ?_⟩
    · have : l.findIdx p = k' := (List.findIdx_eq hlt').2 ⟨hp, fun j hj => hbefore j hj _ (List.getElem?_eq_getElem (by omega))⟩
      have := k w2 hk3
      rwa [‹l.findIdx p = k'›, if_pos hlt'] at this
    · refine ⟨⟨k' + 1, ?_, hlt', ?_, hk3⟩, ?_⟩
      · rw [wrap64 (by omega) (by omega)]; rfl
      · intro j hj h hh
        by_cases hjk : j < k'
        · exact hbefore j hjk h hh
        · obtain rfl : j = k' := by omega
          rw [List.getElem?_eq_getElem hlt'] at hh
          cases hh
          exact hp
      · rw [wrap64 (by omega) (by omega)]
        omega
  · have : l.findIdx p = l.length := List.findIdx_eq_length_of_false (fun h hm => by
      obtain ⟨j, hj, rfl⟩ := List.getElem_of_mem hm
      exact hbefore j (by omega) _ (List.getElem?_eq_getElem hj))
    have := k w1 hkept
    rwa [‹l.findIdx p = l.length›, if_neg (by omega)] at this

theorem xIndex (hr : RowB P T E sz enc val) {p : α → Bool} {l : List α} {a0 a1 : Value} (hsl : SlT w enc a0 l) (hlen : l.length ≤ 9223372036854775806)
    (hcmp : ∀ x ∈ l, ∀ w' (K : Value → Prop), xR P (sEq .eql E false a1 (val x)) w' K ↔ K (.bool (p x)))
    (k : ∀ w', Kept [] w w' → R (.returned (.int .i64 (if l.findIdx p < l.length then (l.findIdx p : Int) else -1))) w') :
    (xP P (sB .len #[T] #[a0]) fun v7_1 =>
    xLoop [(.int .i64 0)] w fun J2 vs3 _ w5 =>
      xP P (sBin .lss I (vs3.getD 0 undef) v7_1) fun v9_6 =>
      xIf v9_6 (
        xP P (sIA T a0 (vs3.getD 0 undef)) fun v14_7 =>
      xR P (sLoad E v14_7) w5 fun v15_8 =>
      xR P (sEq .eql E false a1 v15_8) w5 fun v16_9 =>
      xIf v16_9 (
        R (.returned (vs3.getD 0 undef)) w5) (
        xP P (sBin .add I (vs3.getD 0 undef) (.int .i64 1)) fun v18_10 =>
      J2 [v18_10] w5)) (
        R (.returned (.int .i64 (-1))) w5)) := by
  obtain ⟨a, c, rfl, hc, hrow⟩ := hsl
  refine (xP_len hr.sl).2 ?_
  refine xLoop_of (fun vs w' => ∃ k : Nat, vs = [.int .i64 k] ∧ k ≤ l.length ∧ (∀ j, j < k → ∀ h, l[j]? = some h → p h = false) ∧ Kept [] w w') (fun vs _ => match vs with | [.int _ k] => l.length - k.toNat | _ => 0) ⟨0, rfl, by omega, by omega, Kept.refl _ _⟩ ?_
  rintro _ _ w1 ⟨k', rfl, hk, hbefore, hkept⟩
  simp only [xP_nil, xP_pick, xP_func, xP_not, xP_add, xP_sub, xP_mul, xP_lss, xP_leq, xP_gtr, xP_geq, xP_max2, xP_min2, xR_eql, xR_neq, Nat.zero_add, Nat.add_zero, Nat.reduceAdd, List.getD_cons_zero, List.getD_cons_succ, xIf_true, xIf_false, xIf_dec]
  refine ⟨fun hlt => ?_, fun hge => ?_⟩
  · have hlt' : k' < l.length := by omega
    refine (hr.get ⟨a, c, rfl, hc, hrow⟩ hkept hlt').2 ?_
    refine (hcmp l[k'] (List.getElem_mem hlt') w1 _).2 ?_
    simp only [xIf_bool]
    refine ⟨fun hp => ?_, fun hp => ?_⟩
    · have : l.findIdx p = k' := (List.findIdx_eq hlt').2 ⟨hp, fun j hj => hbefore j hj _ (List.getElem?_eq_getElem (by omega))⟩
      have := k w1 hkept
      rwa [‹l.findIdx p = k'›, if_pos hlt'] at this
    · refine ⟨⟨k' + 1, ?_, hlt', ?_, hkept⟩, ?_⟩
      · rw [wrap64 (by omega) (by omega)]; rfl
      · intro j hj h hh
        by_cases hjk : j < k'
        · exact hbefore j hjk h hh
        · obtain rfl : j = k' := by omega
          rw [List.getElem?_eq_getElem hlt'] at hh
          cases hh
          exact hp
      · rw [wrap64 (by omega) (by omega)]
        omega
  · have : l.findIdx p = l.length := List.findIdx_eq_length_of_false (fun h hm => by
      obtain ⟨j, hj, rfl⟩ := List.getElem_of_mem hm
      exact hbefore j (by omega) _ (List.getElem?_eq_getElem hj))
    have := k w1 hkept
    rwa [‹l.findIdx p = l.length›, if_neg (by omega)] at this

/-- Is one there? -/
theorem found {l : List α} {p : α → Bool} : decide ((0 : Int) ≤ if l.findIdx p < l.length then (l.findIdx p : Int) else -1) = l.any p := by
  by_cases h : l.findIdx p < l.length
  · rw [if_pos h]
    have := List.findIdx_getElem (w := h)
    have h2 : l.any p = true := List.any_eq_true.2 ⟨_, List.getElem_mem h, this⟩
    rw [h2]
    simp
  · rw [if_neg h]
    have h2 : l.any p = false := by
      rw [List.any_eq_false]
      intro x hx
      intro hp
      exact h (List.findIdx_lt_length_of_exists ⟨x, hx, hp⟩)
    rw [h2]
    rfl

theorem xSame [DecidableEq α] (hr : RowB P T E sz enc val) {xs ys : List α} {a b : Value} (ha : SlT w enc a xs) (hb : SlT w enc b ys) (hl : xs.length ≤ 9223372036854775806)
    (hcmp : ∀ x y w' (K : Value → Prop), xR P (sEq .neq E false (val x) (val y)) w' K ↔ K (.bool (!decide (x = y))))
    (k : ∀ w', Kept [] w w' → R (.returned (.bool (decide (xs = ys)))) w') :
    (xP P (sB .len #[T] #[a]) fun v7_1 =>
    xP P (sB .len #[T] #[b]) fun v9_2 =>
    xR P (sEq .neq I false v7_1 v9_2) w fun v10_3 =>
    xIf v10_3 (
      R (.returned (.bool false)) w) (
      xLoop [(.int .i64 0)] w fun J4 vs5 _ w7 =>
      xP P (sB .len #[T] #[a]) fun v13_8 =>
      xP P (sBin .lss I (vs5.getD 0 undef) v13_8) fun v14_9 =>
      xIf v14_9 (
        xP P (sIA T a (vs5.getD 0 undef)) fun v19_10 =>
      xR P (sLoad E v19_10) (w7.drew) fun v20_11 =>
      xP P (sIA T b (vs5.getD 0 undef)) fun v23_12 =>
      xR P (sLoad E v23_12) (w7.drew) fun v24_13 =>
      xR P (sEq .neq E false v20_11 v24_13) (w7.drew) fun v25_14 =>
      xIf v25_14 (
        R (.returned (.bool false)) (w7.drew)) (
        xP P (sBin .add I (vs5.getD 0 undef) (.int .i64 1)) fun v16_15 =>
      J4 [v16_15] (w7.drew))) (
        R (.returned (.bool true)) w7))) := by
  obtain ⟨aa, ac, rfl, hac, har⟩ := ha
  obtain ⟨ba, bc, rfl, hbc, hbr⟩ := hb
  refine (xP_len hr.sl).2 ?_
  refine (xP_len hr.sl).2 ?_
  simp only [xP_nil, xP_pick, xP_func, xP_not, xP_add, xP_sub, xP_mul, xP_lss, xP_leq, xP_gtr, xP_geq, xP_max2, xP_min2, xR_eql, xR_neq, Nat.zero_add, Nat.add_zero, Nat.reduceAdd, List.getD_cons_zero, List.getD_cons_succ, xIf_true, xIf_false, xIf_dec]
  have done : ∀ (b : Bool) w', b = decide (xs = ys) → Kept [] w w' → R (.returned (.bool b)) w' := fun b w' h hk => h ▸ k w' hk
  refine ⟨fun hne => done _ _ ?_ (Kept.refl _ _), fun heq => ?_⟩
  · symm
    simp only [decide_eq_false_iff_not]
    intro h; subst h; exact hne rfl
  · have hle : xs.length = ys.length := by
      rcases Nat.lt_trichotomy xs.length ys.length with h | h | h
      · exact absurd (show ((xs.length : Nat) : Int) ≠ (ys.length : Nat) by omega) heq
      · exact h
      · exact absurd (show ((xs.length : Nat) : Int) ≠ (ys.length : Nat) by omega) heq
    refine xLoop_of (fun vs w' => ∃ i : Nat, vs = [.int .i64 i] ∧ i ≤ xs.length ∧ (∀ j, j < i → xs[j]? = ys[j]?) ∧ Kept [] w w') (fun vs _ => match vs with | [.int _ k] => xs.length - k.toNat | _ => 0) ⟨0, rfl, by omega, by omega, Kept.refl _ _⟩ ?_
    rintro _ _ w1 ⟨i, rfl, hi, hbef, hk⟩
    refine (xP_len hr.sl).2 ?_
    simp only [xP_nil, xP_pick, xP_func, xP_not, xP_add, xP_sub, xP_mul, xP_lss, xP_leq, xP_gtr, xP_geq, xP_max2, xP_min2, xR_eql, xR_neq, Nat.zero_add, Nat.add_zero, Nat.reduceAdd, List.getD_cons_zero, List.getD_cons_succ, xIf_true, xIf_false, xIf_dec]
    refine ⟨fun hlt => ?_, fun hge => ?_⟩
    · have hx : i < xs.length := by omega
      have hy : i < ys.length := by omega
      refine (hr.get ⟨aa, ac, rfl, hac, har⟩ hk.drew hx).2 ?_
      refine (hr.get ⟨ba, bc, rfl, hbc, hbr⟩ hk.drew hy).2 ?_
      refine (hcmp _ _ _ _).2 ?_
      simp only [xIf_bool, Bool.not_eq_true', decide_eq_false_iff_not, Bool.not_eq_false', decide_eq_true_eq]
      refine ⟨fun hne => done _ _ ?_ hk.drew, fun he => ?_⟩
      · symm
        simp only [decide_eq_false_iff_not]
        intro h; subst h; exact hne rfl
      · rw [wrap64 (by omega) (by omega)]
        refine ⟨⟨i + 1, rfl, hx, fun j hj => ?_, hk.drew⟩, by omega⟩
        by_cases hji : j < i
        · exact hbef j hji
        · obtain rfl : j = i := by omega
          rw [List.getElem?_eq_getElem hx, List.getElem?_eq_getElem hy, he]
    · refine done _ _ ?_ hk
      symm
      simp only [decide_eq_true_eq]
      refine List.ext_getElem? (fun j => ?_)
      by_cases hj : j < i
      · exact hbef j hj
      · rw [List.getElem?_eq_none (by omega), List.getElem?_eq_none (by omega)]
end

/-! ## Within -/
def within (n lo hi : Int) : Int := lo + n % (hi - lo + 1)
theorem within_bd {n lo hi : Int} (h : lo ≤ hi) : lo ≤ within n lo hi ∧ within n lo hi ≤ hi := by
  unfold within
  have h1 := Int.emod_nonneg n (show hi - lo + 1 ≠ 0 by omega)
  have h2 := Int.emod_lt_of_pos n (show 0 < hi - lo + 1 by omega)
  omega
theorem xWithin {P : Program} {I : TypeId} {w : World} {R : Ending → World → Prop} {n lo hi : Int} (h0 : -1152921504606846976 ≤ lo) (h1 : lo ≤ hi) (h2 : hi ≤ 4611686018427387904) (k : R (.returned (.int .i64 (within n lo hi))) w) :
    (xP P (sBin .sub I (.int .i64 hi) (.int .i64 lo)) fun v10_1 =>
    xP P (sBin .add I v10_1 (.int .i64 1)) fun v11_2 =>
    xP P (sBin .rem I (.int .i64 n) v11_2) fun v12_3 =>
    xJoin (fun J4 =>
      xP P (sBin .lss I v12_3 (.int .i64 0)) fun v14_5 =>
      xIf v14_5 (
        xP P (sBin .add I v12_3 (.int .i64 hi)) fun v17_6 =>
        xP P (sBin .sub I v17_6 (.int .i64 lo)) fun v19_7 =>
        xP P (sBin .add I v19_7 (.int .i64 1)) fun v20_8 =>
        J4 [v20_8] w) (
        J4 [v12_3] w)) fun vs9 _ w11 =>
    xP P (sBin .add I (.int .i64 lo) (vs9.getD 0 undef)) fun v23_12 =>
    R (.returned v23_12) w11) := by
  have e1 : IntKind.i64.wrap (hi - lo) = hi - lo := wrap64 (by omega) (by omega)
  have e2 : IntKind.i64.wrap (hi - lo + 1) = hi - lo + 1 := wrap64 (by omega) (by omega)
  simp only [xP_sub, xP_add, e1, e2]
  refine (xP_rem (by omega)).2 ?_
  have hm := Int.tmod_lt_of_pos n (show 0 < hi - lo + 1 by omega)
  have hm2 : -(hi - lo + 1) < n.tmod (hi - lo + 1) := by
    have := Int.lt_tmod_of_pos n (show 0 < hi - lo + 1 by omega)
    omega
  have hpos := Int.emod_nonneg n (show hi - lo + 1 ≠ 0 by omega)
  have hlt := Int.emod_lt_of_pos n (show 0 < hi - lo + 1 by omega)
  have hdvd : ∃ k : Int, n.tmod (hi - lo + 1) - n % (hi - lo + 1) = k * (hi - lo + 1) ∧ (k = 0 ∨ k = -1) := by
    by_cases hn : 0 ≤ n
    · exact ⟨0, by rw [Int.tmod_eq_emod_of_nonneg hn]; omega, .inl rfl⟩
    · have := Int.tmod_eq_emod (a := n) (b := hi - lo + 1)
      rw [this]
      split
      · exact ⟨0, by omega, .inl rfl⟩
      · refine ⟨-1, ?_, .inr rfl⟩
        have : ((hi - lo + 1).natAbs : Int) = hi - lo + 1 := by omega
        rw [this]
        omega
  refine xJoin_of (fun vs w' => vs = [.int .i64 (n % (hi - lo + 1))] ∧ w = w') ?_ ?_
  · simp only [xP_lss, xIf_dec]
    obtain ⟨k, hk, hk'⟩ := hdvd
    refine ⟨fun hneg => ?_, fun hge => ?_⟩
    · simp only [xP_add, xP_sub, and_true]
      have e3 : IntKind.i64.wrap (n.tmod (hi - lo + 1) + hi) = n.tmod (hi - lo + 1) + hi := wrap64 (by omega) (by omega)
      have e4 : IntKind.i64.wrap (n.tmod (hi - lo + 1) + hi - lo) = n.tmod (hi - lo + 1) + hi - lo := wrap64 (by omega) (by omega)
      have e5 : IntKind.i64.wrap (n.tmod (hi - lo + 1) + hi - lo + 1) = n.tmod (hi - lo + 1) + hi - lo + 1 := wrap64 (by omega) (by omega)
      rw [e3, e4, e5]
      congr 2
      rcases hk' with rfl | rfl <;> omega
    · simp only [and_true]
      congr 2
      rcases hk' with rfl | rfl <;> omega
  · rintro _ _ _ ⟨rfl, rfl⟩
    simp only [xP_nil, xP_pick, xP_func, xP_not, xP_add, xP_sub, xP_mul, xP_lss, xP_leq, xP_gtr, xP_geq, xP_max2, xP_min2, xR_eql, xR_neq, Nat.zero_add, Nat.add_zero, Nat.reduceAdd, List.getD_cons_zero, List.getD_cons_succ, xIf_true, xIf_false]
    rw [wrap64 (by omega) (by omega)]
    exact k
end Go.X

/-! XGramS -/
namespace Go.X
set_option linter.unusedSimpArgs false
set_option linter.unusedVariables false
open Go

/-! ## What a grammar's row is, with no program in sight -/
structure GFd where
  kind : Int
  size : Int
  lo : Int
  hi : Int
  most : Int
structure GVl where
  n : Int
  s : ByteArray
  l : List ByteArray
def encF (f : GFd) : List Value := [.int .i64 f.kind, .int .i64 f.size, .int .i64 f.lo, .int .i64 f.hi, .int .i64 f.most]
theorem encF_len (f : GFd) : (encF f).length = 5 := rfl
def vF (f : GFd) : Value := .agg (encF f).toArray
theorem encF_cells (f : GFd) : ∀ u ∈ encF f, u.oneCell' = true := by
  intro u hu
  simp [encF] at hu
  rcases hu with rfl | rfl | rfl | rfl | rfl <;> rfl

def GFd.right (f : GFd) : Bool :=
  !(decide (f.lo < 0) || decide (f.hi < f.lo)) &&
  if f.kind = 1 then decide (f.most = 0) && ((decide (f.size = 1 ∨ f.size = 2 ∨ f.size = 4) && decide (f.hi / 2 ^ (8 * f.size).toNat = 0)) || decide (f.size = 8))
  else if f.kind = 3 then !(decide (255 < f.hi) || decide (f.most < 0) || decide (65535 < f.most)) && decide (f.size = 0 ∧ f.hi ≤ 65535)
  else if f.kind = 2 then decide (f.size = 0 ∧ f.most = 0 ∧ f.hi ≤ 65535)
  else false
def GFd.isIn (f : GFd) (n : Int) : Bool := decide (f.lo ≤ n) && decide (n ≤ f.hi)
def strEmpty : ByteArray := ⟨#[]⟩
def GFd.fits (f : GFd) (v : GVl) : Bool :=
  let num := !decide (v.n = 0); let text := !decide (v.s = strEmpty); let texts := !v.l.isEmpty
  if f.kind = 1 then f.isIn v.n && !text && !texts
  else if f.kind = 2 then f.isIn v.s.size && !num && !texts
  else f.isIn v.l.length && !(v.l.any fun s => decide (f.most < s.size)) && !num && !text
/-- The low bytes of a number. -/
def lowB (n : Int) (k : Nat) : List UInt8 := (List.range k).map fun i => UInt8.ofNat (n / 2 ^ (8 * i) % 256).toNat
theorem lowB_len (n : Int) (k : Nat) : (lowB n k).length = k := by simp [lowB]
def bytesOf (s : ByteArray) : List UInt8 := s.data.toList
theorem bytesOf_len (s : ByteArray) : (bytesOf s).length = s.size := by unfold bytesOf; rw [Array.length_toList]; rfl
def textB (s : ByteArray) : List UInt8 := lowB s.size 2 ++ bytesOf s
def GFd.written (f : GFd) (v : GVl) : List UInt8 :=
  if f.kind = 1 then lowB v.n f.size.toNat
  else if f.kind = 2 then textB v.s
  else lowB v.l.length 1 ++ v.l.flatMap textB

/-- Put: an error (its place, its number), or the bytes. -/
def putRest : Nat → List GFd → List GVl → Except (Int × Int) (List UInt8)
  | _, [], _ => .ok []
  | i, f :: fs, v :: vs => if f.fits v then (putRest (i + 1) fs vs).map (f.written v ++ ·) else .error (i, 2)
  | i, _ :: _, [] => .error (i, 2)
def gramPut (fs : List GFd) (vs : List GVl) : Except (Int × Int) (List UInt8) :=
  if fs.findIdx (fun f => !f.right) < fs.length then .error (fs.findIdx (fun f => !f.right), 1)
  else if vs.length = fs.length then putRest 0 fs vs else .error (vs.length, 1)

/-! ### Reading -/
def leNat : List UInt8 → Nat
  | [] => 0
  | b :: l => b.toNat + 256 * leNat l
theorem leNat_lt (l : List UInt8) : leNat l < 256 ^ l.length := by
  induction l with
  | nil => simp [leNat]
  | cons b l ih =>
    have := b.toNat_lt
    simp only [leNat, List.length_cons, Nat.pow_succ]
    omega
def pNum (size : Nat) (lo hi : Int) (r : List UInt8) : Except Int (Int × List UInt8) :=
  if r.length < size then .error 3
  else if (leNat (r.take size) : Int) < lo ∨ hi < leNat (r.take size) then .error 2
  else .ok (leNat (r.take size), r.drop size)
def pText (lo hi : Int) (r : List UInt8) : Except Int (ByteArray × List UInt8) :=
  match pNum 2 lo hi r with
  | .error e => .error e
  | .ok (n, r') => if (r'.length : Int) < n then .error 3 else .ok (⟨(r'.take n.toNat).toArray⟩, r'.drop n.toNat)
def pTexts (most : Int) : Nat → List UInt8 → Except Int (List ByteArray × List UInt8)
  | 0, r => .ok ([], r)
  | k + 1, r => match pText 0 most r with
    | .error e => .error e
    | .ok (s, r') => match pTexts most k r' with
      | .error e => .error e
      | .ok (l, r'') => .ok (s :: l, r'')
def GFd.pVal (f : GFd) (r : List UInt8) : Except Int (GVl × List UInt8) :=
  if f.kind = 1 then match pNum f.size.toNat f.lo f.hi r with
    | .error e => .error e
    | .ok (n, r') => .ok (⟨n, strEmpty, []⟩, r')
  else if f.kind = 2 then match pText f.lo f.hi r with
    | .error e => .error e
    | .ok (s, r') => .ok (⟨0, s, []⟩, r')
  else match pNum 1 f.lo f.hi r with
    | .error e => .error e
    | .ok (k, r') => match pTexts f.most k.toNat r' with
      | .error e => .error e
      | .ok (l, r'') => .ok (⟨0, strEmpty, l⟩, r'')
/-- The rows that are left, of the bytes that are left; n: how many bytes there were. -/
def getRest (n : Nat) : List GFd → List UInt8 → Except (Int × Int) (List GVl)
  | [], r => if r.isEmpty then .ok [] else .error (n - r.length, 4)
  | f :: fs, r => match f.pVal r with
    | .error e => .error (n - r.length, e)
    | .ok (v, r') => (getRest n fs r').map (v :: ·)
def gramGet (fs : List GFd) (b : List UInt8) : Except (Int × Int) (List GVl) :=
  if fs.findIdx (fun f => !f.right) < fs.length then .error (fs.findIdx (fun f => !f.right), 1)
  else getRest b.length fs b

/-! ### In memory -/
/-- A value's cells, its texts behind 'lv'. -/
structure RawV where
  n : Int
  s : ByteArray
  lv : Value
def encV (x : RawV) : List Value := [.int .i64 x.n, .string x.s, x.lv]
theorem encV_len (x : RawV) : (encV x).length = 3 := rfl
def vV (x : RawV) : Value := .agg (encV x).toArray
/-- The raw value reads as the value. -/
def IsV (w : World) (x : RawV) (v : GVl) : Prop := x.n = v.n ∧ x.s = v.s ∧ SlT w encS x.lv v.l
theorem IsV.kept0 {w w' : World} {x : RawV} {v : GVl} (h : IsV w x v) (hk : Kept [] w w') : IsV w' x v := ⟨h.1, h.2.1, h.2.2.kept0 hk⟩
end Go.X

/-! XLib2 -/
namespace Go.X
set_option linter.unusedSimpArgs false
set_option linter.unusedVariables false
open Go Go.RowKit

section
variable {α : Type} {P : Program} {T E : TypeId} {sz bytes : Nat} {enc : α → List Value} {w : World} {v : Value} {z : Value}

/-! ## Rows of one's own, once more -/
theorem own_of_blk {g n : Nat} {xs : List Value} (hb : Blk w g E xs) (hl : xs.length = n * sz) (hn : n ≤ maxLen) : Own w E sz (.slice (some ⟨g, 0, none⟩) n n) n xs [g] :=
  ⟨hl, .inr ⟨g, 0, n, xs, rfl, rfl, hb, Nat.le_refl _, hn, by omega, by rw [List.drop_zero, List.take_of_length_le (by omega)]⟩⟩
theorem Own.blk {g n : Nat} {xs : List Value} {F : List Nat} (h : Own w E sz (.slice (some ⟨g, 0, none⟩) n n) n xs F) : ∃ rest, Blk w g E (xs ++ rest) ∧ F = [g] := by
  rcases h.2 with ⟨h1, _, _⟩ | ⟨g', o, cap, cur, h1, h2, hb, hn, hm, hs, ht⟩
  · cases h1
  · cases h1
    refine ⟨cur.drop (n * sz), ?_, h2⟩
    rw [List.drop_zero] at ht
    rw [← ht, List.take_append_drop]
    exact hb
/-- make of bytes, numbers: a block of zeros. -/
theorem xE_make {K : Value → World → Prop} (he : ElemB P T E 1 bytes z) {q q' : IntKind} {l : Nat} (hb : bytes * l ≤ 140737488355328) (h63 : l ≤ maxLen)
    (k : ∀ w', Blk w' w.heap.size E (List.replicate l (z.cells[0]'(by have := he.zs; omega))) → Kept [] w w' → w'.heap.size = w.heap.size + 1 → K (.slice (some ⟨w.heap.size, 0, none⟩) l l) w') :
    xE P (sMakeSlice T (.int q l) (.int q' l)) w K := by
  obtain ⟨hu, i, hi, hz, hs, hby⟩ := he.info
  have hm : maxLen ≤ 9223372036854775807 := by unfold maxLen; omega
  have hbb : ((bytes * l : Nat) : Int) ≤ 140737488355328 := by omega
  rw [Int.natCast_mul] at hbb
  have hr := run_make (P := P) w T E i z hu hi hz q q' l l (by omega) (Int.le_refl _) (by rw [hby]; omega) (by omega)
  simp only [Int.toNat_natCast, hs, Nat.mul_one] at hr
  refine (xE_of (v := .slice (some ⟨w.heap.size, 0, none⟩) l l) (w' := w.alloc (.cells (madeCells z.cells l) E)) ?_).2 (k _ ?_ (kept_alloc _ _ _) (by simp))
  · unfold sMakeSlice
    exact run_sB P _ w hr
  · rw [← made_toList (n := l) he.zs]
    exact blk_alloc w E _
theorem Src.ofSlT {tx e' : TypeId} {l : List α} (hk : P.underlying tx = some (.slice e')) (hsl : SlT w enc v l) (hlen : ∀ x, (enc x).length = sz) (h1 : ∀ x, ∀ u ∈ enc x, u.oneCell' = true) : Src P sz tx v l.length (l.flatMap enc) w := by
  obtain ⟨a, c, rfl, hc, hr⟩ := hsl
  have one : ∀ u ∈ l.flatMap enc, u.oneCell' = true := fun u hu => by
    obtain ⟨x, _, hx⟩ := List.mem_flatMap.1 hu
    exact h1 x u hx
  cases a with
  | none =>
    have : l = [] := by
      rcases hr with h | ⟨b, o, h, _⟩
      · exact h
      · cases h
    subst this
    exact Src.ofNil w hk c
  | some a =>
    refine Src.ofSlice w hk a _ _ _ (flat_len hlen l) (fun j u hj => ?_) one
    rcases hr with rfl | ⟨b, o, ha, hat⟩
    · simp at hj
    · cases ha
      rw [add_none, hat j (List.getElem?_eq_some_iff.1 hj).1, hj]
theorem encB_one (x : UInt8) : ∀ u ∈ encB x, u.oneCell' = true := by intro u hu; simp [encB] at hu; subst hu; rfl
theorem encS_one (x : ByteArray) : ∀ u ∈ encS x, u.oneCell' = true := by intro u hu; simp [encS] at hu; subst hu; rfl
theorem Src.ofStr {tx : TypeId} (hk : strB P tx) (s : ByteArray) : Src P 1 tx (.string s) s.size ((bytesOf s).flatMap encB) w := by
  have := Src.ofString (P := P) w hk s
  rw [byteCells_eq] at this
  exact this
end

theorem wrapU8 (x : Int) : IntKind.u8.wrap x = x % 256 := by
  simp [IntKind.wrap, IntKind.bits, IntKind.signed]
theorem low_cell (x : Int) : Value.int .u8 (x % 256) = .int .u8 ((UInt8.ofNat (x % 256).toNat).toNat : Nat) := by
  have h1 := Int.emod_nonneg x (show (256 : Int) ≠ 0 by omega)
  have h2 := Int.emod_lt_of_pos x (show (0 : Int) < 256 by omega)
  congr 1
  rw [UInt8.toNat_ofNat']
  omega
theorem lowB_succ (n : Int) (k : Nat) : lowB n (k + 1) = lowB n k ++ [UInt8.ofNat (n / 2 ^ (8 * k) % 256).toNat] := by
  simp [lowB, List.range_succ]
theorem set_row {A : List Value} {z v : Value} {k i : Nat} (h : A.length = i) : (A ++ List.replicate (k + 1) z).set i v = A ++ [v] ++ List.replicate k z := by
  subst h
  rw [List.set_append_right _ _ (Nat.le_refl _), Nat.sub_self, List.replicate_succ, List.set_cons_zero, List.append_assoc]
  rfl
end Go.X

/-! XErr -/
namespace Go.X
set_option linter.unusedSimpArgs false
set_option linter.unusedVariables false
open Go Go.RowKit

section
variable {P : Program} {T : TypeId} {K : Value → Prop} {w : World}
/-! ## Interfaces, tuples -/
def concB (P : Program) (T : TypeId) : Bool := match P.underlying T with
  | some (.interface _) => false
  | some _ => true
  | none => false
theorem xP_iface {v : Value} (h : concB P T = true) : xP P (sIface T v) K ↔ K (.iface T v) := by
  refine xP_of fun w => ?_
  unfold concB at h
  unfold sIface
  refine run_sB P _ w ?_
  cases hu : P.underlying T with
  | none => rw [hu] at h; cases h
  | some d =>
    rw [hu] at h
    simp only [Instr.makeInterface, Sem.run_bind, run_underlying hu, Result.andThen_ok]
    cases d <;> first | rfl | cases h
def ifaceB (P : Program) (T : TypeId) : Bool := match P.underlying T with
  | some (.interface _) => true
  | _ => false
theorem ifaceB_spec (h : ifaceB P T = true) : ∃ ms, P.underlying T = some (.interface ms) := by
  unfold ifaceB at h
  split at h
  · rename_i ms hu; exact ⟨ms, hu⟩
  · cases h
theorem eqIfaceIn {v : Value} {t : TypeId} (h : ifaceB P T = true) (d : Nat) : (Op.equalIn (d + 1) T (.iface t v) .nilIface).run P w = .ok false w := by
  obtain ⟨ms, hu⟩ := ifaceB_spec h
  simp only [Op.equalIn, Sem.run_bind, run_underlying hu, Result.andThen_ok]
  rfl
theorem eqNilIn (h : ifaceB P T = true) (d : Nat) : (Op.equalIn (d + 1) T .nilIface .nilIface).run P w = .ok true w := by
  obtain ⟨ms, hu⟩ := ifaceB_spec h
  simp only [Op.equalIn, Sem.run_bind, run_underlying hu, Result.andThen_ok]
  rfl
theorem run_eqIface {v : Value} {t : TypeId} (h : ifaceB P T = true) : (Op.equal T (.iface t v) .nilIface).run P w = .ok false w := eqIfaceIn h 9999
theorem run_eqNil (h : ifaceB P T = true) : (Op.equal T .nilIface .nilIface).run P w = .ok true w := eqNilIn h 9999
theorem xR_eqlI {v : Value} {t : TypeId} (h : ifaceB P T = true) : xR P (sEq .eql T true (.iface t v) .nilIface) w K ↔ K (.bool false) := xR_of (by
  unfold sEq
  refine run_sB P _ w ?_
  simp only [Sem.run_bind, eqGuard, binOp, run_eqIface h, Result.andThen_ok, Sem.run_pure]
  rfl)
theorem xR_eqlN (h : ifaceB P T = true) : xR P (sEq .eql T true .nilIface .nilIface) w K ↔ K (.bool true) := xR_of (by
  unfold sEq
  refine run_sB P _ w ?_
  simp only [Sem.run_bind, eqGuard, binOp, run_eqNil h, Result.andThen_ok, Sem.run_pure]
  rfl)
theorem xR_neqI {v : Value} {t : TypeId} (h : ifaceB P T = true) : xR P (sEq .neq T true (.iface t v) .nilIface) w K ↔ K (.bool true) := xR_of (by
  unfold sEq
  refine run_sB P _ w ?_
  simp only [Sem.run_bind, eqGuard, binOp, run_eqIface h, Result.andThen_ok, Sem.run_pure]
  rfl)
theorem xR_neqN (h : ifaceB P T = true) : xR P (sEq .neq T true .nilIface .nilIface) w K ↔ K (.bool false) := xR_of (by
  unfold sEq
  refine run_sB P _ w ?_
  simp only [Sem.run_bind, eqGuard, binOp, run_eqNil h, Result.andThen_ok, Sem.run_pure]
  rfl)
theorem xP_extract {vs : Array Value} {i : Nat} {v : Value} (h : vs[i]? = some v) : xP P (sExtract (.tuple vs) i) K ↔ K v := xP_of fun w => by
  unfold sExtract
  refine run_sB P _ w ?_
  simp only [Instr.extract, h]
  rfl
end
theorem xP_ex0 {P : Program} {K : Value → Prop} {a b : Value} : xP P (sExtract (.tuple #[a, b]) 0) K ↔ K a := xP_extract rfl
theorem xP_ex1 {P : Program} {K : Value → Prop} {a b : Value} : xP P (sExtract (.tuple #[a, b]) 1) K ↔ K b := xP_extract rfl
end Go.X

/-! XLib3 -/
namespace Go.X
set_option linter.unusedSimpArgs false
set_option linter.unusedVariables false
open Go Go.RowKit

section
variable {α : Type} {P : Program} {T E : TypeId} {sz : Nat} {enc : α → List Value} {w : World}
/-- s[i:j] -/
theorem xP_slice {K : Value → Prop} {a : Option Addr} {n c : Nat} {q q' : IntKind} {i j : Int} (h : sliceB P T E = true) (hs : sizeB P E sz = true) (h0 : 0 ≤ i) (h1 : i ≤ j) (h2 : j ≤ c) :
    xP P (sSlice T (.slice a n c) (some (.int q i)) (some (.int q' j)) none) K ↔ K (.slice (if c = i.toNat then a else a.map (·.add (i.toNat * sz))) (j.toNat - i.toNat) (c - i.toNat)) := by
  refine xP_of fun w => ?_
  obtain ⟨e, he, hsz⟩ := sizeB_spec hs
  have hu := sliceB_spec h
  obtain ⟨j, rfl⟩ := Int.eq_ofNat_of_zero_le (show 0 ≤ j by omega)
  obtain ⟨i, rfl⟩ := Int.eq_ofNat_of_zero_le h0
  have h1' : i ≤ j := by omega
  have h2' : j ≤ c := by omega
  unfold sSlice
  rw [run_value]
  simp [Instr.sliceAt, Instr.slice, underlying, hu, Instr.sliceBounds, Instr.sliceBound, asIntOf, h1', h2', sizeOf_run he hsz]
/-- s[:j] -/
theorem xP_upto {K : Value → Prop} {a : Option Addr} {n c : Nat} {q' : IntKind} {j : Int} (h : sliceB P T E = true) (hs : sizeB P E sz = true) (h1 : 0 ≤ j) (h2 : j ≤ c) :
    xP P (sSlice T (.slice a n c) none (some (.int q' j)) none) K ↔ K (.slice (if c = 0 then a else a.map (·.add (0 * sz))) j.toNat c) := by
  refine xP_of fun w => ?_
  obtain ⟨e, he, hsz⟩ := sizeB_spec hs
  have hu := sliceB_spec h
  obtain ⟨j, rfl⟩ := Int.eq_ofNat_of_zero_le h1
  have h2' : j ≤ c := by omega
  unfold sSlice
  rw [run_value]
  simp [Instr.sliceAt, Instr.slice, underlying, hu, Instr.sliceBounds, Instr.sliceBound, asIntOf, h2', sizeOf_run he hsz]
theorem SlT.sub {a : Option Addr} {c i j : Nat} {l : List α} (hsz : ∀ x, (enc x).length = sz) (h : SlT w enc (.slice a l.length c) l) (hij : i ≤ j) (hj : j ≤ l.length) :
    SlT w enc (.slice (if c = i then a else a.map (·.add (i * sz))) (j - i) (c - i)) ((l.drop i).take (j - i)) := by
  obtain ⟨a', c', hv, hc, hr⟩ := h
  cases hv
  have hlen : ((l.drop i).take (j - i)).length = j - i := by rw [List.length_take, List.length_drop]; omega
  refine ⟨_, c - i, by rw [hlen], by rw [hlen]; omega, ?_⟩
  rcases hr with rfl | ⟨b, o, rfl, hat⟩
  · exact .inl (by simp)
  · by_cases hci : c = i
    · left
      have : j - i = 0 := by omega
      rw [this, List.take_zero]
    · right
      refine ⟨b, o + i * sz, by rw [if_neg hci]; simp [add_none], ?_⟩
      have := (hat.sub (i * sz) ((j - i) * sz))
      rwa [flat_drop hsz, flat_take hsz] at this
end

theorem leNat_snoc (l : List UInt8) (x : UInt8) : leNat (l ++ [x]) = leNat l + x.toNat * 256 ^ l.length := by
  induction l with
  | nil => simp [leNat]
  | cons a l ih =>
    have e : x.toNat * 256 ^ (l.length + 1) = 256 * (x.toNat * 256 ^ l.length) := by rw [Nat.pow_succ, ← Nat.mul_assoc, Nat.mul_comm]
    simp only [List.cons_append, leNat, ih, List.length_cons, e, Nat.mul_add]
    omega
theorem or_add {a x i : Nat} (h : a < 2 ^ i) : a ||| (x * 2 ^ i) = a + x * 2 ^ i := by
  have := Nat.shiftLeft_add_eq_or_of_lt h x
  rw [Nat.shiftLeft_eq] at this
  rw [Nat.or_comm, ← this, Nat.add_comm]
theorem or_u64 {a b : Nat} (h : (a ||| b) < 2 ^ 64) : IntKind.u64.wrap ((BitVec.ofInt 64 (a : Int) ||| BitVec.ofInt 64 (b : Int)).toNat : Nat) = ((a ||| b : Nat) : Int) := by
  have e : (BitVec.ofInt 64 (a : Int) ||| BitVec.ofInt 64 (b : Int)).toNat = a ||| b := by
    rw [BitVec.toNat_or, BitVec.toNat_ofInt, BitVec.toNat_ofInt]
    have ha : a < 2 ^ 64 := Nat.lt_of_le_of_lt Nat.left_le_or h
    have hb : b < 2 ^ 64 := Nat.lt_of_le_of_lt Nat.right_le_or h
    have e1 : ((a : Int) % ((2 : Nat) ^ 64 : Nat)).toNat = a := by omega
    have e2 : ((b : Int) % ((2 : Nat) ^ 64 : Nat)).toNat = b := by omega
    rw [e1, e2]
  rw [e]
  exact wrapU64 (by omega) (by omega)
theorem xP_orU {P : Program} {T : TypeId} {K : Value → Prop} {a b : Nat} (h : (a ||| b) < 2 ^ 64) : xP P (sBin .or T (.int .u64 a) (.int .u64 b)) K ↔ K (.int .u64 ((a ||| b : Nat) : Int)) :=
  xP_or.trans (Iff.of_eq (congrArg (fun z => K (.int .u64 z)) (or_u64 h)))
end Go.X

/-! XMap -/
namespace Go.X
set_option linter.unusedSimpArgs false
set_option linter.unusedVariables false
open Go Go.RowKit

/-! ## Maps of int keys, of one's own -/
section
variable {α : Type} {val : α → Value} {P : Program} {w w' : World} {T : TypeId} {r : Nat}
def mget : List (Int × α) → Int → Option α
  | [], _ => none
  | p :: l, k => if p.1 = k then some p.2 else mget l k
def mpos : List (Int × α) → Int → Option (Nat × α)
  | [], _ => none
  | p :: l, k => if p.1 = k then some (0, p.2) else (mpos l k).map fun j => (j.1 + 1, j.2)
def mset : List (Int × α) → Int → α → List (Int × α)
  | [], k, v => [(k, v)]
  | p :: l, k, v => if p.1 = k then (k, v) :: l else p :: mset l k v
theorem mget_pos (l : List (Int × α)) (k : Int) : mget l k = (mpos l k).map (·.2) := by
  induction l with
  | nil => rfl
  | cons p l ih =>
    simp only [mget, mpos]
    split
    · rfl
    · rw [ih]; cases mpos l k <;> rfl
theorem mpos_get {l : List (Int × α)} {k : Int} {j : Nat} {v : α} (h : mpos l k = some (j, v)) : l[j]? = some (k, v) := by
  induction l generalizing j with
  | nil => cases h
  | cons p l ih =>
    simp only [mpos] at h
    split at h
    · rename_i hp
      cases h
      simp [← hp]
    · cases hm : mpos l k with
      | none => rw [hm] at h; cases h
      | some q => rw [hm] at h; cases h; simpa using ih hm
theorem mset_pos {l : List (Int × α)} {k : Int} {j : Nat} {u v : α} (h : mpos l k = some (j, u)) : mset l k v = l.set j (k, v) := by
  induction l generalizing j with
  | nil => cases h
  | cons p l ih =>
    simp only [mpos] at h
    simp only [mset]
    split at h
    · rename_i hp
      cases h
      simp [hp]
    · rename_i hp
      rw [if_neg hp]
      cases hm : mpos l k with
      | none => rw [hm] at h; cases h
      | some q => rw [hm] at h; cases h; rw [ih hm]; rfl
theorem mset_none {l : List (Int × α)} {k : Int} {v : α} (h : mpos l k = none) : mset l k v = l ++ [(k, v)] ∧ k ∉ l.map (·.1) := by
  induction l with
  | nil => exact ⟨rfl, by simp⟩
  | cons p l ih =>
    simp only [mpos] at h
    simp only [mset]
    split at h
    · cases h
    · rename_i hp
      rw [if_neg hp]
      cases hm : mpos l k with
      | none =>
        obtain ⟨h1, h2⟩ := ih hm
        refine ⟨by rw [h1]; rfl, ?_⟩
        rw [List.map_cons, List.mem_cons, not_or]
        exact ⟨fun h => hp h.symm, h2⟩
      | some q => rw [hm] at h; cases h
theorem mget_set (l : List (Int × α)) (k k' : Int) (v : α) : mget (mset l k v) k' = if k = k' then some v else mget l k' := by
  induction l with
  | nil => rfl
  | cons p l ih =>
    simp only [mset, mget]
    by_cases hp : p.1 = k
    · rw [if_pos hp]
      simp only [mget]
      by_cases hk : k = k'
      · rw [if_pos hk, if_pos hk]
      · rw [if_neg hk, if_neg hk, if_neg (by omega)]
    · rw [if_neg hp]
      simp only [mget]
      rw [ih]
      by_cases hk : k = k'
      · rw [if_pos hk, if_pos hk, if_neg (by omega)]
      · rw [if_neg hk, if_neg hk]
theorem mset_len (l : List (Int × α)) (k : Int) (v : α) : (mset l k v).length = if (mget l k).isSome then l.length else l.length + 1 := by
  rw [mget_pos]
  cases h : mpos l k with
  | none => rw [(mset_none h).1]; simp
  | some q => obtain ⟨j, u⟩ := q; rw [mset_pos h]; simp
theorem mset_nodup {l : List (Int × α)} {k : Int} {v : α} (h : (l.map (·.1)).Nodup) : ((mset l k v).map (·.1)).Nodup := by
  cases hm : mpos l k with
  | none =>
    obtain ⟨h1, h2⟩ := mset_none (v := v) hm
    rw [h1, List.map_append]
    exact List.nodup_append.2 ⟨h, by simp, fun a ha b hb => by
      simp at hb; subst hb
      intro he; subst he
      exact h2 ha⟩
  | some q =>
    obtain ⟨j, u⟩ := q
    rw [mset_pos hm, List.map_set]
    have := mpos_get hm
    have e : (l.map (·.1)).set j k = l.map (·.1) := by
      have h1 : (l.map (·.1))[j]? = some k := by rw [List.getElem?_map, this]; rfl
      obtain ⟨h2, h3⟩ := List.getElem?_eq_some_iff.1 h1
      rw [← h3]; exact List.set_getElem_self h2
    rw [e]; exact h

def kvE (e : MapEntry) : Value × Value := (e.key, e.val)
def kvP (val : α → Value) (p : Int × α) : Value × Value := (.int .i64 p.1, val p.2)
/-- Block r is a map of int keys that reads as the list. -/
def MapOf (w : World) (r : Nat) (val : α → Value) (l : List (Int × α)) : Prop :=
  ∃ es clock, w.heap[r]? = some (.map es clock) ∧ (∀ x ∈ es.toList, x.born < clock) ∧ (es.toList.map (·.born)).Nodup ∧ es.toList.map kvE = l.map (kvP val) ∧ (l.map (·.1)).Nodup
theorem MapOf.lt {l : List (Int × α)} (h : MapOf w r val l) : r < w.heap.size := by
  obtain ⟨es, c, h, _⟩ := h
  exact (Array.getElem?_eq_some_iff.1 h).1
theorem MapOf.kept {l : List (Int × α)} {M : List Nat} (h : MapOf w r val l) (hk : Kept M w w') (hr : r ∉ M) : MapOf w' r val l := by
  have hlt := h.lt
  obtain ⟨es, c, h, hh⟩ := h
  exact ⟨es, c, (hk.block r hlt hr).trans h, hh⟩
theorem MapOf.drew {l : List (Int × α)} (h : MapOf w r val l) : MapOf w.drew r val l := h
theorem MapOf.len {l : List (Int × α)} {es : Array MapEntry} (h : es.toList.map kvE = l.map (kvP val)) : es.size = l.length := by
  have := congrArg List.length h
  simpa using this

theorem findNow_int {q : IntKind} (k : Int) : ∀ (es : List MapEntry) (l : List (Int × α)) (i : Nat), es.map kvE = l.map (kvP val) →
    Instr.findNow (.int q) (.int .i64 k) es i = some ((mpos l k).map fun j => (i + j.1, val j.2))
  | [], [], i, _ => rfl
  | [], p :: l, i, h => by cases h
  | e :: es, [], i, h => by cases h
  | e :: es, p :: l, i, h => by
    simp only [List.map_cons, List.cons.injEq] at h
    obtain ⟨h1, h2⟩ := h
    have hk : e.key = .int .i64 p.1 := congrArg (·.1) h1
    have hv : e.val = val p.2 := congrArg (·.2) h1
    simp only [Instr.findNow, hk, Instr.sameNow, if_true, mpos]
    by_cases hp : p.1 = k
    · subst hp
      simp [hv]
    · have : (k == p.1) = false := by simp; omega
      rw [this, if_neg hp]
      simp only
      rw [findNow_int k es l (i + 1) h2]
      cases mpos l k with
      | none => rfl
      | some j => simp; omega

def mapB (P : Program) (T E : TypeId) : Prop := ∃ k, P.underlying T = some (.map k E) ∧ P.underlying k = some (.int .i64)
section
variable {E : TypeId} {l : List (Int × α)}
theorem checkKey_int {k : TypeId} {n : Int} {b : Bool} (h : P.underlying k = some (.int .i64)) : (Instr.checkKey b 10000 k (.int .i64 n)).run P w = .ok () w := by
  have e : ∀ d, (Instr.checkKey b (d + 1) k (.int .i64 n)).run P w = .ok () w := fun d => by
    simp only [Instr.checkKey, Sem.run_bind, run_underlying h, Result.andThen_ok]
    rfl
  exact e 9999
theorem lookup_run (hT : mapB P T E) (h : MapOf w r val l) {z : Value} (hz : zeroB P E z) (k : Int) (ok : Bool) :
    (Instr.lookup T (.map (some r)) (.int .i64 k) ok).run P w = .ok (if ok then .tuple #[((mget l k).map val).getD z, .bool (mget l k).isSome] else ((mget l k).map val).getD z) w := by
  obtain ⟨kt, h1, h2⟩ := hT
  obtain ⟨es, c, hb, _, _, hm, _⟩ := h
  have hf := findNow_int (q := .i64) k es.toList l 0 hm
  have hzr := zero_run (w := w) hz
  rw [mget_pos]
  cases hp : mpos l k with
  | none =>
    rw [hp] at hf
    cases ok <;> simp [Instr.lookup, run_underlying h1, MapKept.run_getObj_map hb, checkKey_int h2, Instr.findKey, run_underlying h2, hf, hzr, Result.andThen]
  | some j =>
    rw [hp] at hf
    cases ok <;> simp [Instr.lookup, run_underlying h1, MapKept.run_getObj_map hb, checkKey_int h2, Instr.findKey, run_underlying h2, hf, Result.andThen]
theorem xR_lookup {K : Value → Prop} (hT : mapB P T E) (h : MapOf w r val l) {z : Value} (hz : zeroB P E z) {k : Int} :
    xR P (sLookup T (.map (some r)) (.int .i64 k) false) w K ↔ K (((mget l k).map val).getD z) := xR_of (by
  unfold sLookup
  refine run_sB P _ w ?_
  rw [lookup_run hT h hz]; rfl)
theorem xR_lookupOk {K : Value → Prop} (hT : mapB P T E) (h : MapOf w r val l) {z : Value} (hz : zeroB P E z) {k : Int} :
    xR P (sLookup T (.map (some r)) (.int .i64 k) true) w K ↔ K (.tuple #[((mget l k).map val).getD z, .bool (mget l k).isSome]) := xR_of (by
  unfold sLookup
  refine run_sB P _ w ?_
  rw [lookup_run hT h hz]; rfl)
theorem xStill_lookup {A : Prop} (hT : mapB P T E) (h : MapOf w r val l) {z : Value} (hz : zeroB P E z) {k : Int} :
    xStill P (sLookup T (.map (some r)) (.int .i64 k) false) (((mget l k).map val).getD z) w A ↔ A := xStill_of (by
  unfold sLookup
  refine run_sB P _ w ?_
  rw [lookup_run hT h hz]; rfl)
theorem xR_lenM {K : Value → Prop} (hT : mapB P T E) (h : MapOf w r val l) : xR P (sB .len #[T] #[.map (some r)]) w K ↔ K (.int .i64 l.length) := xR_of (by
  obtain ⟨kt, h1, h2⟩ := hT
  obtain ⟨es, c, hb, _, _, hm, _⟩ := h
  unfold sB
  simp [builtin, Builtin.len_, run_underlying h1, MapKept.run_getObj_map hb, goInt, MapOf.len hm])
theorem mapOf_new (w : World) (val : α → Value) : MapOf (w.alloc (.map #[] 0)) w.heap.size val [] := ⟨#[], 0, heap_alloc_new w _, by simp, by simp, rfl, by simp⟩
theorem xE_makeMap {K : Value → World → Prop} (hT : mapB P T E) {res : Option Value} (hr : res = none ∨ ∃ k n, res = some (.int k n)) (k : ∀ w', MapOf w' w.heap.size val [] → Kept [] w w' → w'.heap.size = w.heap.size + 1 → K (.map (some w.heap.size)) w') : xE P (sMakeMap T res) w K := by
  obtain ⟨kt, h1, h2⟩ := hT
  refine (xE_of (v := .map (some w.heap.size)) (w' := w.alloc (.map #[] 0)) ?_).2 (k _ (mapOf_new w val) (kept_alloc _ _ _) (by simp))
  unfold sMakeMap
  refine run_sB P _ w ?_
  rcases hr with rfl | ⟨q, n, rfl⟩
  · simp [Instr.makeMap]
  · simp [Instr.makeMap, run_underlying h1, asInt, asIntOf]
theorem kept_setBlock {b : Nat} {es : Array MapEntry} {c : Nat} (hb : w.heap[b]? = some (.map es c)) (o : Obj) : Kept [b] w { w with heap := w.heap.setIfInBounds b o } :=
  ⟨rfl, rfl, rfl, by simp, fun k _ hn => ChangeMaps.heap_setBlock_other hb o (by simpa using hn)⟩
theorem update_run (hT : mapB P T E) (h : MapOf w r val l) (k : Int) (v : α) : ∃ w', (Instr.mapUpdate T (.map (some r)) (.int .i64 k) (val v)).run P w = .ok () w' ∧ MapOf w' r val (mset l k v) ∧ Kept [r] w w' ∧ w'.heap.size = w.heap.size := by
  obtain ⟨kt, h1, h2⟩ := hT
  obtain ⟨es, c, hb, hbo, hnd, hm, hkn⟩ := h
  have hf := findNow_int (q := .i64) k es.toList l 0 hm
  have hlen := MapOf.len hm
  cases hp : mpos l k with
  | none =>
    rw [hp] at hf
    refine ⟨_, by simp [Instr.mapUpdate, run_underlying h1, MapKept.run_getObj_map hb, checkKey_int h2, Instr.findKey, run_underlying h2, hf, MapKept.run_setObj_map _ hb, Result.andThen]; rfl, ?_, kept_setBlock hb _, by simp⟩
    refine ⟨es.push { key := .int .i64 k, val := val v, born := c }, c + 1, ChangeMaps.heap_setBlock_same hb _, ?_, ?_, ?_, mset_nodup hkn⟩
    · intro x hx
      simp only [Array.toList_push, List.mem_append, List.mem_singleton] at hx
      rcases hx with hx | rfl
      · exact Nat.lt_succ_of_lt (hbo x hx)
      · exact Nat.lt_succ_self _
    · simp only [Array.toList_push, List.map_append, List.map_cons, List.map_nil]
      refine List.nodup_append.2 ⟨hnd, by simp, ?_⟩
      intro a ha b hb'
      simp only [List.mem_singleton] at hb'
      subst hb'
      obtain ⟨x, hx, rfl⟩ := List.mem_map.1 ha
      exact Nat.ne_of_lt (hbo x hx)
    · rw [(mset_none hp).1]
      simp [hm, kvE, kvP]
  | some q =>
    obtain ⟨j, u⟩ := q
    rw [hp] at hf
    simp only [Option.map_some, Nat.zero_add] at hf
    have hj := mpos_get hp
    have hjl : j < es.size := by rw [hlen]; exact (List.getElem?_eq_some_iff.1 hj).1
    have hej : es[j].key = .int .i64 k := by
      have h3 : (es.toList.map kvE)[j]? = some (kvP val (k, u)) := by rw [hm, List.getElem?_map, hj]; rfl
      rw [List.getElem?_map] at h3
      have h4 : es.toList[j]? = some es[j] := by simp
      rw [h4] at h3
      simp [kvE, kvP] at h3
      exact h3.1
    have hst : (Instr.keyThatStays (.int .i64 k) (.int .i64 k)).run P w = .ok (.int .i64 k) w := by
      simp [Instr.keyThatStays, Instr.sameBits]
    refine ⟨_, by simp [Instr.mapUpdate, run_underlying h1, MapKept.run_getObj_map hb, checkKey_int h2, Instr.findKey, run_underlying h2, hf, hjl, hej, hst, MapKept.run_setObj_map _ hb, Result.andThen]; rfl, ?_, kept_setBlock hb _, by simp⟩
    refine ⟨_, c, ChangeMaps.heap_setBlock_same hb _, ?_, ?_, ?_, mset_nodup hkn⟩
    · intro x hx
      simp only [Array.toList_modify] at hx
      obtain ⟨i, hi, rfl⟩ := List.getElem_of_mem hx
      have hi' : i < es.toList.length := by simpa using hi
      rw [List.getElem_modify]
      split
      · exact hbo es.toList[i] (List.getElem_mem hi')
      · exact hbo es.toList[i] (List.getElem_mem hi')
    · have : (es.modify j fun e => { e with key := .int .i64 k, val := val v }).toList.map (·.born) = es.toList.map (·.born) := by
        apply List.ext_getElem?
        intro i
        simp only [List.getElem?_map, Array.getElem?_toList, Array.getElem?_modify]
        split
        · cases es[i]? <;> rfl
        · rfl
      rw [this]
      exact hnd
    · rw [mset_pos hp]
      have : (es.modify j fun e => { e with key := .int .i64 k, val := val v }).toList.map kvE = (es.toList.map kvE).set j (kvP val (k, v)) := by
        apply List.ext_getElem?
        intro i
        simp only [List.getElem?_map, Array.getElem?_toList, Array.getElem?_modify, List.getElem?_set, List.length_map, Array.length_toList]
        split
        · rename_i hij; subst hij
          simp [hjl, kvE, kvP]
        · rfl
      rw [this, hm, List.map_set]
theorem xE_mapUpdate {K : Value → World → Prop} (hT : mapB P T E) (h : MapOf w r val l) {k : Int} {v : α} {u : Value} (hu : u = val v)
    (kk : ∀ w', MapOf w' r val (mset l k v) → Kept [r] w w' → w'.heap.size = w.heap.size → K undef w') : xE P (sMapUpdate T (.map (some r)) (.int .i64 k) u) w K := by
  subst hu
  obtain ⟨w', hr, h1, h2, h3⟩ := update_run hT h k v
  refine (xE_skip (w' := w') ?_).2 (kk w' h1 h2 h3)
  unfold sMapUpdate
  simp [hr]
end
end
end Go.X

/-! XReplyS -/
namespace Go.X
set_option linter.unusedSimpArgs false
set_option linter.unusedVariables false
open Go Go.RowKit

/-! ## Errors, with no program in sight -/
inductive Er where
  | no (k : Int)
  | loss (a b c : Int)
  | flt (op : ByteArray) (at_ : Int) (e : Er)
def Er.kind : Er → Int
  | .no k => k
  | .loss _ _ _ => 6
  | .flt _ _ e => e.kind
def Er.where? : Er → Option (ByteArray × Int)
  | .flt op a e => match e.where? with
    | some x => some x
    | none => some (op, a)
  | _ => none

/-! ## Replies, with no program in sight -/
structure Rp where
  corr : Int
  err : Int
  base : Int
  next : Int
  names : List ByteArray
  batches : List (Int × ByteArray)
structure RawRp where
  corr : Int
  err : Int
  base : Int
  next : Int
  nv : Value
  bv : Value
def encR (x : RawRp) : List Value := [.int .i64 x.corr, .int .i64 x.err, .int .i64 x.base, .int .i64 x.next, x.nv, x.bv]
def vR (x : RawRp) : Value := .agg (encR x).toArray
def encT (p : Int × ByteArray) : List Value := [.int .i64 p.1, .string p.2]
theorem encT_len (p : Int × ByteArray) : (encT p).length = 2 := rfl
theorem encT_one (p : Int × ByteArray) : ∀ u ∈ encT p, u.oneCell' = true := by intro u hu; simp [encT] at hu; rcases hu with rfl | rfl <;> rfl
def vT (p : Int × ByteArray) : Value := .agg (encT p).toArray
structure IsRp (w : World) (x : RawRp) (r : Rp) : Prop where
  corr : x.corr = r.corr
  err : x.err = r.err
  base : x.base = r.base
  next : x.next = r.next
  names : SlT w encS x.nv r.names
  batches : SlT w encT x.bv r.batches
theorem IsRp.kept0 {w w' : World} {x : RawRp} {r : Rp} (h : IsRp w x r) (hk : Kept [] w w') : IsRp w' x r := ⟨h.corr, h.err, h.base, h.next, h.names.kept0 hk, h.batches.kept0 hk⟩
theorem SlT.one {α : Type} {w : World} {enc : α → List Value} {v : Value} {l : List α} (h : SlT w enc v l) : v.oneCell' = true := by
  obtain ⟨a, c, rfl, _⟩ := h; rfl
theorem IsRp.one {w : World} {x : RawRp} {r : Rp} (h : IsRp w x r) : ∀ u ∈ encR x, u.oneCell' = true := by
  intro u hu
  simp [encR] at hu
  rcases hu with rfl | rfl | rfl | rfl | rfl | rfl <;> first | rfl | exact h.names.one | exact h.batches.one
def mkS (l : List UInt8) : ByteArray := ⟨l.toArray⟩
def textT (p : Int × ByteArray) : ByteArray := mkS (lowB p.1 8) ++ p.2
def rpFields : List GFd := [⟨1, 4, 0, 4294967295, 0⟩, ⟨1, 1, 0, 255, 0⟩, ⟨1, 8, 0, 9223372036854775807, 0⟩, ⟨1, 8, 0, 9223372036854775807, 0⟩, ⟨3, 0, 0, 8, 24⟩, ⟨3, 0, 0, 4, 608⟩]
def Rp.vals (r : Rp) : List GVl := [⟨r.corr, strEmpty, []⟩, ⟨r.err, strEmpty, []⟩, ⟨r.base, strEmpty, []⟩, ⟨r.next, strEmpty, []⟩, ⟨0, strEmpty, r.names⟩, ⟨0, strEmpty, r.batches.map textT⟩]
def Rp.put (r : Rp) : Except (Int × Int) (List UInt8) := gramPut rpFields r.vals
def isOk {α β : Type} : Except α β → Bool
  | .ok _ => true
  | .error _ => false
def Rp.right (r : Rp) : Bool := isOk r.put && !r.batches.any fun p => decide (p.1 < 0)
def okOr {α : Type} : Except α (List UInt8) → List UInt8
  | .ok b => b
  | .error _ => []
def Rp.bytes (r : Rp) : List UInt8 := if r.right then okOr r.put else []
def batchT (s : ByteArray) : Int × ByteArray := (IntKind.i64.wrap (leNat ((bytesOf s).take 8)), s.extract 8 s.size)
def rpZero : Rp := ⟨0, 0, 0, 0, [], []⟩
def opG : ByteArray := ⟨#[103, 114, 97, 109, 46, 71, 101, 116]⟩
def opP : ByteArray := ⟨#[103, 114, 97, 109, 46, 80, 117, 116]⟩
def opRG : ByteArray := ⟨#[114, 101, 112, 108, 121, 46, 71, 101, 116]⟩
def rpGet (b : List UInt8) : Except Er Rp :=
  match gramGet rpFields b with
  | .error (i, k) => .error (.flt opRG 0 (.flt opG i (.no k)))
  | .ok vs => match vs with
    | [a, b, c, d, e, f] =>
      if f.l.any fun s => decide (s.size < 8) then .error (.flt opRG 0 (.no 2))
      else
        let r : Rp := ⟨a.n, b.n, c.n, d.n, e.l, f.l.map batchT⟩
        if r.right then .ok r else .error (.flt opRG 0 (.no 2))
    | _ => .error (.no 0)

theorem or_i64 {a x j : Nat} (ha : a < 2 ^ j) (hx : a + x * 2 ^ j < 18446744073709551616) :
    IntKind.i64.wrap ((BitVec.ofInt 64 (a : Int) ||| BitVec.ofInt 64 (IntKind.i64.wrap ((x * 2 ^ j : Nat) : Int))).toNat : Nat) = IntKind.i64.wrap ((a + x * 2 ^ j : Nat) : Int) := by
  have e : (BitVec.ofInt 64 (a : Int) ||| BitVec.ofInt 64 (IntKind.i64.wrap ((x * 2 ^ j : Nat) : Int))).toNat = a + x * 2 ^ j := by
    have hor := or_add (x := x) ha
    have hp : (2 : Nat) ^ j > 0 := Nat.pow_pos (by omega)
    generalize x * 2 ^ j = b at *
    have e1 : ((a : Int) % ((2 : Nat) ^ 64 : Nat)).toNat = a := by omega
    have e2 : (IntKind.i64.wrap ((b : Nat) : Int) % ((2 : Nat) ^ 64 : Nat)).toNat = b := by rw [IntKind.wrap_i64]; omega
    rw [← hor, BitVec.toNat_or, BitVec.toNat_ofInt, BitVec.toNat_ofInt, e1, e2]
  rw [e]
theorem xP_orI {P : Program} {T : TypeId} {K : Value → Prop} {a x j : Nat} (ha : a < 2 ^ j) (hx : a + x * 2 ^ j < 18446744073709551616) :
    xP P (sBin .or T (.int .i64 a) (.int .i64 (IntKind.i64.wrap ((x * 2 ^ j : Nat) : Int)))) K ↔ K (.int .i64 (IntKind.i64.wrap ((a + x * 2 ^ j : Nat) : Int))) :=
  xP_or.trans (Iff.of_eq (congrArg (fun z => K (.int .i64 z)) (or_i64 ha hx)))
theorem getRest_len {n : Nat} : ∀ {fs : List GFd} {r : List UInt8} {vs : List GVl}, getRest n fs r = .ok vs → vs.length = fs.length
  | [], r, vs, h => by
    unfold getRest at h
    split at h
    · cases h; rfl
    · cases h
  | f :: fs, r, vs, h => by
    unfold getRest at h
    cases hp : f.pVal r with
    | error e => rw [hp] at h; cases h
    | ok q =>
      obtain ⟨v, r'⟩ := q
      rw [hp] at h
      simp only at h
      cases hg : getRest n fs r' with
      | error e => rw [hg] at h; cases h
      | ok l =>
        rw [hg] at h
        simp only [Except.map] at h
        cases h
        simp [getRest_len hg]
theorem gramGet_ok {fs : List GFd} {b : List UInt8} {vs : List GVl} (h : gramGet fs b = .ok vs) : getRest b.length fs b = .ok vs ∧ ∀ f ∈ fs, f.right = true := by
  unfold gramGet at h
  split at h
  · cases h
  · rename_i hw
    refine ⟨h, fun f hm => ?_⟩
    cases hr : f.right with
    | true => rfl
    | false => exact absurd (List.findIdx_lt_length_of_exists ⟨f, hm, by simp [hr]⟩) hw
theorem gramGet_len {fs : List GFd} {b : List UInt8} {vs : List GVl} (h : gramGet fs b = .ok vs) : vs.length = fs.length := getRest_len (gramGet_ok h).1
theorem leNat1 (l : List UInt8) : leNat (l.take 1) ≤ 255 := by
  have h := leNat_lt (l.take 1)
  have : (l.take 1).length ≤ 1 := by rw [List.length_take]; omega
  have := Nat.lt_of_lt_of_le h (Nat.le_trans (Nat.pow_le_pow_right (by omega) this) (show 256 ^ 1 ≤ 256 by omega))
  omega
theorem pTexts_len {most : Int} : ∀ {k : Nat} {r r' : List UInt8} {l : List ByteArray}, pTexts most k r = .ok (l, r') → l.length = k
  | 0, _, _, _, h => by cases h; rfl
  | k + 1, r, r', l, h => by
    unfold pTexts at h
    split at h
    · cases h
    · split at h
      · cases h
      · rename_i h2
        cases h
        simp [pTexts_len h2]
theorem pVal_len {f : GFd} {r r' : List UInt8} {v : GVl} (h : f.pVal r = .ok (v, r')) : v.l.length ≤ 255 := by
  unfold GFd.pVal at h
  split at h
  · split at h
    · cases h
    · cases h; simp
  · split at h
    · split at h
      · cases h
      · cases h; simp
    · split at h
      · cases h
      · rename_i k r1 hk
        split at h
        · cases h
        · rename_i h2
          cases h
          rw [pTexts_len h2]
          unfold pNum at hk
          split at hk
          · cases hk
          · split at hk
            · cases hk
            · cases hk
              have := leNat1 r
              omega
theorem getRest_small {n : Nat} : ∀ {fs : List GFd} {r : List UInt8} {vs : List GVl}, getRest n fs r = .ok vs → ∀ v ∈ vs, v.l.length ≤ 255
  | [], r, vs, h => by
    unfold getRest at h
    split at h
    · cases h; simp
    · cases h
  | f :: fs, r, vs, h => by
    unfold getRest at h
    cases hp : f.pVal r with
    | error e => rw [hp] at h; cases h
    | ok q =>
      obtain ⟨v, r'⟩ := q
      rw [hp] at h
      simp only at h
      cases hg : getRest n fs r' with
      | error e => rw [hg] at h; cases h
      | ok l =>
        rw [hg] at h
        simp only [Except.map] at h
        cases h
        intro x hx
        rcases List.mem_cons.1 hx with rfl | hx
        · exact pVal_len hp
        · exact getRest_small hg x hx
theorem leNat_two (l : List UInt8) : leNat (l.take 2) < 65536 := by
  have h := leNat_lt (l.take 2)
  have : (l.take 2).length ≤ 2 := by rw [List.length_take]; omega
  exact Nat.lt_of_lt_of_le h (Nat.le_trans (Nat.pow_le_pow_right (by omega) this) (by omega))
theorem pText_sz {lo hi : Int} {r r' : List UInt8} {s : ByteArray} (h : pText lo hi r = .ok (s, r')) : s.size ≤ 65535 := by
  unfold pText at h
  split at h
  · cases h
  · rename_i n r1 hn
    split at h
    · cases h
    · cases h
      unfold pNum at hn
      split at hn
      · cases hn
      · split at hn
        · cases hn
        · cases hn
          have := leNat_two r
          show (List.toArray _).size ≤ _
          rw [List.size_toArray, List.length_take]
          omega
theorem pTexts_sz {most : Int} : ∀ {k : Nat} {r r' : List UInt8} {l : List ByteArray}, pTexts most k r = .ok (l, r') → ∀ s ∈ l, s.size ≤ 65535
  | 0, _, _, _, h => by cases h; simp
  | k + 1, r, r', l, h => by
    unfold pTexts at h
    split at h
    · cases h
    · rename_i s r1 hs
      split at h
      · cases h
      · rename_i h2
        cases h
        intro x hx
        rcases List.mem_cons.1 hx with rfl | hx
        · exact pText_sz hs
        · exact pTexts_sz h2 x hx
theorem pVal_sz {f : GFd} {r r' : List UInt8} {v : GVl} (h : f.pVal r = .ok (v, r')) : ∀ s ∈ v.l, s.size ≤ 65535 := by
  unfold GFd.pVal at h
  split at h
  · split at h
    · cases h
    · cases h; simp
  · split at h
    · split at h
      · cases h
      · cases h; simp
    · split at h
      · cases h
      · split at h
        · cases h
        · rename_i h2
          cases h
          exact pTexts_sz h2
theorem getRest_sz {n : Nat} : ∀ {fs : List GFd} {r : List UInt8} {vs : List GVl}, getRest n fs r = .ok vs → ∀ v ∈ vs, ∀ s ∈ v.l, s.size ≤ 65535
  | [], r, vs, h => by
    unfold getRest at h
    split at h
    · cases h; simp
    · cases h
  | f :: fs, r, vs, h => by
    unfold getRest at h
    cases hp : f.pVal r with
    | error e => rw [hp] at h; cases h
    | ok q =>
      obtain ⟨v, r'⟩ := q
      rw [hp] at h
      simp only at h
      cases hg : getRest n fs r' with
      | error e => rw [hg] at h; cases h
      | ok l =>
        rw [hg] at h
        simp only [Except.map] at h
        cases h
        intro x hx
        rcases List.mem_cons.1 hx with rfl | hx
        · exact pVal_sz hp
        · exact getRest_sz hg x hx
end Go.X

/-! XFlat -/
namespace Go.X
set_option linter.unusedSimpArgs false
set_option linter.unusedVariables false
open Go Go.RowKit

/-! ## Structs of ints and strings, compared -/
def fieldSig (P : Program) (f : Field) : Option (Nat × Bool) := if f.name == "_" then none else match P.underlying f.type with
  | some (.int k) => (match k with | .i64 => some (f.offset, false) | _ => none)
  | some .string => some (f.offset, true)
  | _ => none
def flatB (P : Program) (T : TypeId) (sig : List (Nat × Bool)) : Prop :=
  P.underlying T = some (.struct (P.fieldsOf T)) ∧ P.stoodInHeld T = false ∧ P.eqGuardType P.depth T = false ∧ (P.fieldsOf T).toList.map (fieldSig P) = sig.map some
def CellOK (xs : Array Value) (s : Nat × Bool) : Prop := match s.2 with
  | false => ∃ n, xs[s.1]? = some (.int .i64 n)
  | true => ∃ t, xs[s.1]? = some (.string t)
def cellEq : Option Value → Option Value → Bool
  | some (.int _ a), some (.int _ b) => decide (a = b)
  | some (.string a), some (.string b) => decide (a = b)
  | _, _ => false
section
variable {P : Program} {w : World} {T : TypeId}
theorem fieldSig_spec {f : Field} {s : Nat × Bool} (h : fieldSig P f = some s) : f.name ≠ "_" ∧ f.offset = s.1 ∧ ((s.2 = false ∧ P.underlying f.type = some (.int .i64)) ∨ (s.2 = true ∧ P.underlying f.type = some .string)) := by
  unfold fieldSig at h
  split at h
  · cases h
  · rename_i hn
    refine ⟨by simpa using hn, ?_⟩
    split at h
    · rename_i k hk
      cases k <;> simp at h
      subst h
      exact ⟨rfl, .inl ⟨rfl, hk⟩⟩
    · rename_i hk
      cases h
      exact ⟨rfl, .inr ⟨rfl, hk⟩⟩
    · cases h
theorem isAgg_str {t : TypeId} (h : P.underlying t = some .string) : (isAgg t).run P w = .ok false w := by
  unfold isAgg underlying
  simp [h]
theorem eqFields_flat {xs ys : Array Value} (d : Nat) : ∀ (fs : List Field) (sig : List (Nat × Bool)), fs.map (fieldSig P) = sig.map some → (∀ s ∈ sig, CellOK xs s ∧ CellOK ys s) →
    (Op.eqFields (d + 1) xs ys fs).run P w = .ok (sig.all fun s => cellEq xs[s.1]? ys[s.1]?) w
  | [], [], _, _ => rfl
  | [], s :: sig, h, _ => by cases h
  | f :: fs, [], h, _ => by cases h
  | f :: fs, s :: sig, h, hc => by
    simp only [List.map_cons, List.cons.injEq] at h
    obtain ⟨hne, ho, hty⟩ := fieldSig_spec h.1
    obtain ⟨hx, hy⟩ := hc s List.mem_cons_self
    have ih := eqFields_flat d fs sig h.2 (fun t ht => hc t (List.mem_cons_of_mem _ ht))
    obtain ⟨o, b⟩ := s
    simp only at ho
    rcases hty with ⟨hb, hty⟩ | ⟨hb, hty⟩
    · simp only at hb; subst hb
      obtain ⟨m, hm⟩ := hx
      obtain ⟨n, hn⟩ := hy
      simp only at hm hn
      simp only [Op.eqFields, hne, ne_eq, not_false_eq_true, if_true, Sem.run_bind, part, isAgg_int hty, Result.andThen_ok, Bool.false_eq_true, if_false, ho, hm, hn, Sem.run_pure, run_equalIn_int w d f.type .i64 .i64 m n hty, List.all_cons]
      have hce : cellEq xs[o]? ys[o]? = decide (m = n) := by rw [hm, hn]; rfl
      rw [hm, hn] at hce
      rw [hce]
      by_cases hab : m = n
      · simp [hab, ih]
      · simp [hab]
    · simp only at hb; subst hb
      obtain ⟨m, hm⟩ := hx
      obtain ⟨n, hn⟩ := hy
      simp only at hm hn
      simp only [Op.eqFields, hne, ne_eq, not_false_eq_true, if_true, Sem.run_bind, part, isAgg_str hty, Result.andThen_ok, Bool.false_eq_true, if_false, ho, hm, hn, Sem.run_pure, run_equalIn_string w d f.type m n hty, List.all_cons, str_eq]
      have hce : cellEq xs[o]? ys[o]? = decide (m = n) := by rw [hm, hn]; rfl
      rw [hm, hn] at hce
      rw [hce]
      by_cases hab : m = n
      · simp [hab, ih]
      · simp [hab]
theorem xR_neqF {K : Value → Prop} {c : Bool} {xs ys : Array Value} {sig : List (Nat × Bool)} (h : flatB P T sig) (hc : ∀ s ∈ sig, CellOK xs s ∧ CellOK ys s) :
    xR P (sEq .neq T c (.agg xs) (.agg ys)) w K ↔ K (.bool (!(sig.all fun s => cellEq xs[s.1]? ys[s.1]?))) :=
  xR_of (by
    obtain ⟨h1, h2, h3, h4⟩ := h
    rw [run_sEq_agg h3, run_neq_struct, run_equalIn_struct w 9999 T xs ys h1 h2, eqFields_flat 9998 _ _ h4 hc]; rfl)
theorem xR_eqlF {K : Value → Prop} {c : Bool} {xs ys : Array Value} {sig : List (Nat × Bool)} (h : flatB P T sig) (hc : ∀ s ∈ sig, CellOK xs s ∧ CellOK ys s) :
    xR P (sEq .eql T c (.agg xs) (.agg ys)) w K ↔ K (.bool (sig.all fun s => cellEq xs[s.1]? ys[s.1]?)) :=
  xR_of (by
    obtain ⟨h1, h2, h3, h4⟩ := h
    rw [run_sEq_agg h3, run_eql_struct, run_equalIn_struct w 9999 T xs ys h1 h2, eqFields_flat 9998 _ _ h4 hc]; rfl)
end
end Go.X

/-! XLib5 -/
namespace Go.X
set_option linter.unusedSimpArgs false
set_option linter.unusedVariables false
open Go Go.RowKit

section
variable {α : Type} {P : Program} {T E : TypeId} {sz bytes : Nat} {enc : α → List Value} {w : World} {z v : Value} {l : List α}
/-- []T{} -/
theorem xE_slice0 {K : Value → World → Prop} (he : ElemB P T E sz bytes z) (k : ∀ w', Own w' E sz (.slice (some ⟨w.heap.size, 0, none⟩) 0 0) 0 [] [w.heap.size] → Kept [] w w' → w'.heap.size = w.heap.size + 1 → K (.slice (some ⟨w.heap.size, 0, none⟩) 0 0) w') :
    xE P (sBuildSlice T 0 #[]) w K := by
  obtain ⟨hu, i, hi, hz, hs, hby⟩ := he.info
  refine (xE_of (v := .slice (some ⟨w.heap.size, 0, none⟩) 0 0) (w' := w.alloc (.cells (#[] : Array Value) E)) ?_).2 (k _ ?_ (kept_alloc _ _ _) (by simp))
  · unfold sBuildSlice
    refine run_sB P _ w ?_
    simp [Instr.buildSlice, run_underlying hu, sizeOf, typeInfo, hi, Instr.fill, newRow]
    rw [show (Array.range 0) = (#[] : Array Nat) from by apply Array.eq_empty_of_size_eq_zero; simp]
    simp
  · exact ⟨by simp, .inr ⟨w.heap.size, 0, 0, [], rfl, rfl, blk_alloc w E [], Nat.le_refl _, by unfold maxLen; omega, by simp, by simp⟩⟩
theorem SlT.elem (h : SlT w enc v l) (hsz : ∀ x, (enc x).length = sz) {i : Nat} (hi : i < l.length) : ∃ b o c, v = .slice (some ⟨b, o, none⟩) l.length c ∧ At w b (o + i * sz) (enc l[i]) := by
  obtain ⟨a, c, rfl, hc, hr⟩ := h
  obtain ⟨b, o, rfl, hat⟩ := hr.resolve_left (by intro h; subst h; simp at hi)
  exact ⟨b, o, c, rfl, at_elem hsz hat (List.getElem?_eq_getElem hi)⟩
/-- s[:j] -/
theorem SlT.upto {a : Option Addr} {c j : Nat} (hsz : ∀ x, (enc x).length = sz) (h : SlT w enc (.slice a l.length c) l) (hj : j ≤ l.length) : SlT w enc (.slice (if c = 0 then a else a.map (·.add (0 * sz))) j c) (l.take j) := by
  have := SlT.sub (i := 0) (j := j) hsz h (by omega) hj
  simpa using this
theorem SlT.nil_ (w : World) (enc : α → List Value) : SlT w enc (.slice none 0 0) ([] : List α) := ⟨none, 0, rfl, by simp, .inl rfl⟩
theorem at_keptM {w' : World} {M : List Nat} {b o : Nat} {l : List Value} (h : At w b o l) (hk : Kept M w w') (hb : b ∉ M) : At w' b o l := h.kept hk hb
end
theorem extract_min {s : ByteArray} {k : Nat} : s.extract 0 (min (s.size : Int) (k : Nat)).toNat = s.extract 0 k := by
  apply ByteArray.ext
  simp only [ByteArray.data_extract]
  apply Array.ext'
  simp only [Array.toList_extract, List.extract_eq_take_drop, List.drop_zero, Nat.sub_zero]
  have e : s.data.toList.length = s.size := by simp
  by_cases h : s.size ≤ k
  · rw [List.take_of_length_le (by omega), List.take_of_length_le (by omega)]
  · congr 1; omega
end Go.X
namespace Go.X
open Go Go.RowKit
theorem xP_xorB {P : Program} {T : TypeId} {K : Value → Prop} {a b : UInt8} : xP P (sBin .xor T (.int .u8 a.toNat) (.int .u8 b.toNat)) K ↔ K (.int .u8 (a ^^^ b).toNat) :=
  xP_xor.trans (Iff.of_eq (congrArg (fun z => K (.int .u8 z)) (by
    have e : (BitVec.ofInt IntKind.u8.bits ((a.toNat : Nat) : Int) ^^^ BitVec.ofInt IntKind.u8.bits ((b.toNat : Nat) : Int)).toNat = (a ^^^ b).toNat := by
      show (BitVec.ofInt 8 ((a.toNat : Nat) : Int) ^^^ BitVec.ofInt 8 ((b.toNat : Nat) : Int)).toNat = _
      rw [UInt8.toNat_xor, BitVec.toNat_xor, BitVec.toNat_ofInt, BitVec.toNat_ofInt]
      have ha := a.toNat_lt
      have hb := b.toNat_lt
      have e1 : (((a.toNat : Nat) : Int) % ((2 : Nat) ^ 8 : Nat)).toNat = a.toNat := by omega
      have e2 : (((b.toNat : Nat) : Int) % ((2 : Nat) ^ 8 : Nat)).toNat = b.toNat := by omega
      rw [e1, e2]
    rw [e, wrapU8]
    have := (a ^^^ b).toNat_lt
    omega)))
end Go.X
namespace Go.X
theorem set_window {α : Type} {cur : List α} {oo n i : Nat} {v : α} : ((cur.set (oo + i) v).drop oo).take n = ((cur.drop oo).take n).set i v := by
  apply List.ext_getElem?
  intro j
  rw [List.getElem?_set, List.getElem?_take, List.getElem?_take, List.getElem?_drop, List.getElem?_drop, List.getElem?_set]
  simp only [List.length_take, List.length_drop]
  by_cases hj : j < n
  · by_cases hij : i = j
    · subst hij
      by_cases hl : oo + i < cur.length
      · simp [hj, hl]; omega
      · have : ¬ (i < n ∧ i < cur.length - oo) := by omega
        simp [hj, hl, this]; omega
    · have : ¬ oo + i = oo + j := by omega
      simp [hij, hj, this]
  · by_cases hij : i = j
    · subst hij
      simp [hj]
      omega
    · simp [hij, hj]
end Go.X
namespace Go.X
open Go Go.RowKit
/-- A store into a row of one's own. -/
theorem xE_storeOwn {P : Program} {T E : TypeId} {sz n c b o i : Nat} {w : World} {u : Value} {xs : List Value} {F : List Nat} {K : Value → World → Prop} (hsz : sizeB P T 1 = true) (h : Own w E sz (.slice (some ⟨b, o, none⟩) n c) n xs F) (hi : i < xs.length) (h1 : u.oneCell' = true)
    (k : ∀ w', Own w' E sz (.slice (some ⟨b, o, none⟩) n c) n (xs.set i u) F → Kept F w w' → w'.heap.size = w.heap.size → K undef w') : xE P (sStore T (.pointer (some ⟨b, o + i, none⟩)) u) w K := by
  have hxl := h.1
  rcases h.2 with ⟨he, _, _⟩ | ⟨g, oo, cap, cur, he, hF, hblk, hnc, hcm, hcs, htk⟩
  · cases he
  · cases he
    have hmul : n * sz ≤ c * sz := Nat.mul_le_mul_right _ hnc
    refine xE_store1 hsz hblk (by omega) h1 fun w' hb' hk hz => k w' ⟨by rw [List.length_set]; exact hxl, .inr ⟨b, o, c, _, rfl, hF, hb', hnc, hcm, by rw [List.length_set]; exact hcs, ?_⟩⟩ (hF ▸ hk) hz
    rw [set_window, htk]
end Go.X

/-! XOpen2 -/
namespace Go.X
set_option linter.unusedSimpArgs false
set_option linter.unusedVariables false
open Go Go.RowKit Go.ChangeShapes Go.WideShapes Go.Deep

/-! ## Arguments opened, by parts -/
/-- Whatever reads at type T is 'enc y' for some y that is 'ok'. -/
def OpensE {α : Type} (P : Program) (w : World) (T : TypeId) (enc : α → List Value) (ok : α → Prop) : Prop :=
  ∀ (H : Type) (e0 : TypeId × Value → H) (fuel : Nat) (cs : List Value) (x : DataW H × List MemPlace), DataW.trod e0 P w 0 (fun _ => true) true fuel T cs = some x → ∃ y, cs = enc y ∧ ok y
section
variable {α : Type} {P : Program} {w : World} {T E : TypeId} {enc : α → List Value} {ok : α → Prop} {sz : Nat}
theorem opens_int (h : P.underlying T = some (.int .i64)) : OpensE P w T encI fun n => -9223372036854775808 ≤ n ∧ n ≤ 9223372036854775807 := by
  intro H e0 fuel cs x hx
  obtain ⟨n, rfl, _, hw⟩ := DataW.trod_int h hx
  exact ⟨n, rfl, wf_i64 hw⟩
theorem opens_byte (h : P.underlying T = some (.int .u8)) : OpensE P w T encB fun _ => True := by
  intro H e0 fuel cs x hx
  obtain ⟨n, rfl, _, hw⟩ := DataW.trod_int h hx
  have hb : 0 ≤ n ∧ n ≤ 255 := by simpa [Lit.wf, IntKind.min, IntKind.max, IntKind.signed, IntKind.bits] using hw
  refine ⟨UInt8.ofNat n.toNat, ?_, trivial⟩
  simp only [encB, List.cons.injEq, Value.int.injEq, true_and, and_true]
  rw [UInt8.toNat_ofNat']
  omega
theorem opens_bool (h : P.underlying T = some .bool) : OpensE P w T (fun b : Bool => [.bool b]) fun _ => True := by
  intro H e0 fuel cs x hx
  obtain ⟨b, rfl, _⟩ := DataW.trod_bool h hx
  exact ⟨b, rfl, trivial⟩
theorem opens_str (h : P.underlying T = some .string) : OpensE P w T encS fun s => s.size ≤ maxLen := by
  intro H e0 fuel cs x hx
  obtain ⟨s, rfl, _, hs⟩ := DataW.trod_string h hx
  exact ⟨s, rfl, hs⟩
theorem choose_list {R : Nat → α → Prop} : ∀ n : Nat, (∀ i, i < n → ∃ y, R i y) → ∃ l : List α, l.length = n ∧ ∀ i y, l[i]? = some y → R i y
  | 0, _ => ⟨[], rfl, fun i y h => by simp at h⟩
  | n + 1, h => by
    obtain ⟨l, hl, hr⟩ := choose_list n (fun i hi => h i (by omega))
    obtain ⟨y, hy⟩ := h n (by omega)
    refine ⟨l ++ [y], by simp [hl], fun i z hz => ?_⟩
    rcases Nat.lt_trichotomy i n with hi | hi | hi
    · rw [List.getElem?_append_left (by omega)] at hz
      exact hr i z hz
    · subst hi
      rw [List.getElem?_append_right (by omega), hl, Nat.sub_self] at hz
      simp at hz
      subst hz
      exact hy
    · rw [List.getElem?_eq_none (by simp; omega)] at hz
      cases hz
theorem sub_none {x : Addr} {k : Nat} {v : Value} (h : w.cell? (x.add k) = some v) (hk : k = 0) : ∃ b o, x = ⟨b, o, none⟩ := by
  subst hk
  obtain ⟨b, o, s⟩ := x
  cases s with
  | none => exact ⟨b, o, rfl⟩
  | some q =>
    unfold World.cell? Addr.add at h
    simp at h
    split at h <;> simp at h
theorem opens_slice (hT : P.underlying T = some (.slice E)) (hC : P.cellsOf E = sz) (hl : ∀ y, (enc y).length = sz) (hsz : 0 < sz) (hE : OpensE P w E enc ok) :
    ∀ (H : Type) (e0 : TypeId × Value → H) (fuel : Nat) (cs : List Value) (x : DataW H × List MemPlace), DataW.trod e0 P w 0 (fun _ => true) true fuel T cs = some x →
      ∃ v l, cs = [v] ∧ SlT w enc v l ∧ (∀ y ∈ l, ok y) ∧ l.length ≤ maxLen := by
  intro H e0 fuel cs x hx
  rcases open_slice hT hx with ⟨rfl, _⟩ | ⟨a, len, cap, m, n, D, Pl, rfl, hb, hlc, hm, hmm, hxx, hi⟩
  · exact ⟨_, [], rfl, SlT.nil_ w enc, by simp, by unfold maxLen; simp⟩
  · simp only [if_true] at hmm
    have key : ∀ i, i < len → ∃ y, ok y ∧ ∀ j, j < sz → w.cell? ((a.add (i * sz)).add j) = (enc y)[j]? := by
      intro i hil
      obtain ⟨cs', hc, ht⟩ := hi i (by omega)
      rw [hC] at hc
      obtain ⟨_, hcl, hat⟩ := World.cells?_some hc
      obtain ⟨y, rfl, hy⟩ := hE H e0 n cs' _ ht
      exact ⟨y, hy, fun j hj => hat j hj⟩
    obtain ⟨l, hll, hr⟩ := choose_list len key
    refine ⟨_, l, rfl, ⟨some a, cap, by rw [hll], by omega, ?_⟩, fun y hy => ?_, by omega⟩
    · rcases Nat.eq_zero_or_pos len with h0 | h0
      · left; exact List.eq_nil_of_length_eq_zero (by omega)
      · right
        obtain ⟨y0, hy0, hc0⟩ := key 0 h0
        have h1 := hc0 0 hsz
        rw [List.getElem?_eq_getElem (by rw [hl]; exact hsz)] at h1
        rw [Nat.zero_mul] at h1
        have hadd : (a.add 0).add 0 = a.add 0 := by rw [Go.Deep.add_add]
        rw [hadd] at h1
        obtain ⟨b, o, rfl⟩ := sub_none h1 rfl
        refine ⟨b, o, rfl, at_flat hl l o fun i y hy => ?_⟩
        intro j hj
        have := (hr i y hy).2 j (by rw [hl] at hj; exact hj)
        rw [add_none, add_none] at this
        exact this
    · obtain ⟨i, hil, rfl⟩ := List.getElem_of_mem hy
      exact (hr i _ (List.getElem?_eq_getElem hil)).1
/-- A struct of one-cell fields: each field's own reading. -/
theorem trod_fields {fs : Array Field} (hE : P.underlying T = some (.struct fs)) (hone : oneCellFields P fs = true) (hC : P.cellsOf T = fs.size) {H : Type} {e0 : TypeId × Value → H} {fuel : Nat} {cs : List Value} {x : DataW H × List MemPlace}
    (h : DataW.trod e0 P w 0 (fun _ => true) true fuel T cs = some x) : cs.length = fs.size ∧ ∀ (j : Nat) (f : Field), fs[j]? = some f → ∃ (v : Value) (n : Nat) (y : DataW H × List MemPlace), cs[j]? = some v ∧ DataW.trod e0 P w 0 (fun _ => true) true n f.type [v] = some y := by
  obtain ⟨ys, n', hn', hy, hlen, hyl, hf⟩ := DataW.trod_struct hE h
  rw [hC] at hlen
  refine ⟨hlen, fun j f hj => ?_⟩
  obtain ⟨ho, hk⟩ := hone_of hone j f hj
  have hjl : j < fs.size := (Array.getElem?_eq_some_iff.1 hj).1
  have h1 := hf j f hj
  rw [ho, hk] at h1
  have hone' : (cs.drop j).take 1 = [cs[j]'(by omega)] := by
    rw [List.drop_eq_getElem_cons (by omega)]
    rfl
  rw [hone'] at h1
  exact ⟨cs[j]'(by omega), n', ys[j]'(by omega), List.getElem?_eq_getElem (by omega), h1.trans (List.getElem?_eq_getElem (by omega))⟩
def structOf (P : Program) (T : TypeId) (types : List TypeId) : Prop := P.underlying T = some (.struct (P.fieldsOf T)) ∧ oneCellFields P (P.fieldsOf T) = true ∧ P.cellsOf T = (P.fieldsOf T).size ∧ (P.fieldsOf T).toList.map (·.type) = types
theorem trod_struct_types {types : List TypeId} (hs : structOf P T types) {H : Type} {e0 : TypeId × Value → H} {fuel : Nat} {cs : List Value} {x : DataW H × List MemPlace}
    (h : DataW.trod e0 P w 0 (fun _ => true) true fuel T cs = some x) : cs.length = types.length ∧ ∀ (j : Nat) (t : TypeId), types[j]? = some t → ∃ (v : Value) (n : Nat) (y : DataW H × List MemPlace), cs[j]? = some v ∧ DataW.trod e0 P w 0 (fun _ => true) true n t [v] = some y := by
  obtain ⟨h1, h2, h3, h4⟩ := hs
  obtain ⟨hl, hf⟩ := trod_fields h1 h2 h3 h
  subst h4
  refine ⟨by rw [hl]; simp, fun j t hj => ?_⟩
  rw [List.getElem?_map] at hj
  cases hg : (P.fieldsOf T).toList[j]? with
  | none => rw [hg] at hj; cases hj
  | some f =>
    rw [hg] at hj
    cases hj
    exact hf j f (by simpa using hg)
theorem open_arg_struct {types : List TypeId} (hs : structOf P T types) {r : Reach} {b0 : Nat} {H : Type} {e0 : TypeId × Value → H} {v : Value} {d : DataW H} {p : List MemPlace}
    (hv : Value.okWide P w r b0 T v) (h : DataW.Trod e0 P w 0 (fun _ => true) true T v d p) : ∃ cs : List Value, v = .agg cs.toArray ∧ cs.length = types.length ∧ ∀ (j : Nat) (t : TypeId), types[j]? = some t → ∃ (v : Value) (n : Nat) (y : DataW H × List MemPlace), cs[j]? = some v ∧ DataW.trod e0 P w 0 (fun _ => true) true n t [v] = some y := by
  obtain ⟨cs, rfl, _⟩ := okWide_struct hs.1 hv
  obtain ⟨fuel, hf⟩ := h
  obtain ⟨h1, h2⟩ := trod_struct_types hs hf
  exact ⟨cs.toList, by simp, h1, h2⟩
theorem open_arg_slice (hT : P.underlying T = some (.slice E)) (hC : P.cellsOf E = sz) (hl : ∀ y, (enc y).length = sz) (hsz : 0 < sz) (hE : OpensE P w E enc ok) {r : Reach} {b0 : Nat} {H : Type} {e0 : TypeId × Value → H} {v : Value} {d : DataW H} {p : List MemPlace}
    (hv : Value.okWide P w r b0 T v) (h : DataW.Trod e0 P w 0 (fun _ => true) true T v d p) : ∃ l, SlT w enc v l ∧ (∀ y ∈ l, ok y) ∧ l.length ≤ maxLen := by
  obtain ⟨a, n, c, rfl⟩ := okWide_slice hT hv
  obtain ⟨fuel, hf⟩ := h
  obtain ⟨v, l, hcs, hs, ho, hm⟩ := opens_slice hT hC hl hsz hE H e0 fuel _ _ hf
  simp [Value.cells] at hcs
  subst hcs
  exact ⟨l, hs, ho, hm⟩
end
end Go.X

/-! XFault -/
namespace Go.X
set_option linter.unusedSimpArgs false
set_option linter.unusedVariables false
open Go Go.RowKit Go.Extern

/-! ## Functions without a body; calls through an interface -/
section
variable {P : Program} {w : World} {K : Value → World → Prop}
theorem xE_extern {f : FuncId} {fn : Func} {e : Array Value → Sem Value} (hf : P.funcs[f]? = some fn) (hname : (fn.name == "runtime.NumGoroutine") = false) (hb : fn.body.isNone = true) (hn : Extern.findNext fn = none) (he : Extern.find fn = some e)
    {args : Array Value} {v : Value} {w' : World} (hr : (e args).run P w = .ok v w') (k : K v w') : xE P (sCall f args) w K := by
  have e1 : sCall f args = callFunc f ((#[] ++ args) ++ #[]) := rfl
  have h := run_callFunc_extern hf hname hb hn he args w
  rw [hr] at h
  refine (xE_of (v := v) (w' := w') ?_).2 k
  rw [e1, Array.empty_append, Array.append_empty, h]
  rfl
theorem xE_invoke1 {m : String} {t : TypeId} {v r : Value} {f : FuncId} (hm : (Go.method (P.types.size + Made.depth) t v m).run P w = .ok (f, r) w) (h : xE P (sCall f #[r]) w K) : xE P (sInvoke m #[.iface t v]) w K := by
  have e1 : (sInvoke m #[.iface t v]).run P w = (sCall f #[r]).run P w := by
    have e2 : sCall f #[r] = callFunc f #[r] := rfl
    have e3 : sInvoke m #[.iface t v] = callMethod (.iface t v) m #[] := rfl
    rw [e2, e3]
    unfold callMethod
    simp only [Sem.run_bind, run_program, Result.andThen_ok, hm]
    rfl
  unfold xE at h ⊢
  rw [e1]; exact h
theorem xE_invoke2 {m : String} {t : TypeId} {v r a : Value} {f : FuncId} (hm : (Go.method (P.types.size + Made.depth) t v m).run P w = .ok (f, r) w) (h : xE P (sCall f #[r, a]) w K) : xE P (sInvoke m #[.iface t v, a]) w K := by
  have e1 : (sInvoke m #[.iface t v, a]).run P w = (sCall f #[r, a]).run P w := by
    have e2 : sCall f #[r, a] = callFunc f #[r, a] := rfl
    have e3 : sInvoke m #[.iface t v, a] = callMethod (.iface t v) m #[a] := rfl
    rw [e2, e3]
    unfold callMethod
    simp only [Sem.run_bind, run_program, Result.andThen_ok, hm]
    rfl
  unfold xE at h ⊢
  rw [e1]; exact h
theorem xP_assert {K : Value → Prop} {x r : Value} {t a : TypeId} (h : ∀ w, (Instr.typeAssert x t a true).run P w = .ok r w) : xP P (sAssert x t a true) K ↔ K r := xP_of fun w => by
  unfold sAssert
  exact run_sB P _ w (h w)
end
/-! ## internal/reflectlite's entries that read or write memory -/
theorem rlm (z : Sem Value) (f : TypeId → Addr → Nat → Nat → Sem Value) (v : Value) :
    ReflectliteValue.method z f #[v] = (do match ← ReflectliteValue.parts v with | none => z | some (t, a, fl) => f t a fl (fl % 32)) := rfl
theorem rls (v x : Value) : ReflectliteValue.set #[v, x] = (do
    let (some (dst, a, fl), some (src, b, _)) := (← ReflectliteValue.parts v, ← ReflectliteValue.parts x)
      | unsupported (.noEntry "extern/(internal/reflectlite.Value).Set.zeroValue")
    if fl / ReflectliteValue.flagAddr % 2 == 0 then unsupported (.noEntry "extern/(internal/reflectlite.Value).Set.unaddressable")
    let val ← loadVar src b
    if ← Rtype.directlyAssignable dst src then storeVar dst a val
    else if ← Rtype.implements dst src then
      if (← Rtype.kind src) == 20 then
        match val with
        | .nilIface => unsupported (.noEntry "extern/reflectlite: a nil value of one interface type handed on as a value of another")
        | _ => storeVar dst a val
      else storeVar dst a (.iface src val)
    else panicString ("reflectlite.Set: value of type " ++ (← Rtype.spelt src) ++ " is not assignable to type " ++ (← Rtype.spelt dst))
    pure (.tuple #[])) := rfl
section
variable {P : Program} {w : World}
theorem rl_isNil {v : Value} {T : TypeId} {a p : Addr} {fl : Nat} (hp : (ReflectliteValue.parts v).run P w = .ok (some (T, a, fl)) w) (hk : ([18, 19, 20, 21, 22, 23, 26].contains (fl % 32)) = true) (h1 : oneB P T = true) (ha : w.cell? a = some (.pointer (some p))) :
    (ReflectliteValue.method (ReflectliteValue.valueError "reflectlite.Value.IsNil" 0) ReflectliteValue.isNil #[v]).run P w = .ok (.bool false) w := by
  rw [rlm]
  simp only [Sem.run_bind, hp, Result.andThen_ok]
  unfold ReflectliteValue.isNil
  have hl : (loadVar T a).run P w = .ok (.pointer (some p)) w := by
    simp only [loadVar, Sem.run_bind, isAgg_one h1, Result.andThen_ok, Bool.false_eq_true, if_false, run_load, ha]
  simp only [hk, Bool.not_true, Bool.false_eq_true, if_false, Sem.run_bind, hl, Result.andThen_ok, Sem.run_pure]
theorem rl_elem {v r : Value} {T E : TypeId} {a p : Addr} {fl : Nat} (hp : (ReflectliteValue.parts v).run P w = .ok (some (T, a, fl)) w) (hk : fl % 32 = 22) (h1 : oneB P T = true) (ha : w.cell? a = some (.pointer (some p)))
    (he : (Rtype.elem? T).run P w = .ok (some E) w) (hm : (ReflectliteValue.mk E p ReflectliteValue.flagAddr).run P w = .ok r w) :
    (ReflectliteValue.method (ReflectliteValue.valueError "reflectlite.Value.Elem" 0) ReflectliteValue.elem #[v]).run P w = .ok r w := by
  rw [rlm]
  simp only [Sem.run_bind, hp, Result.andThen_ok]
  unfold ReflectliteValue.elem
  have hl : (loadVar T a).run P w = .ok (.pointer (some p)) w := by
    simp only [loadVar, Sem.run_bind, isAgg_one h1, Result.andThen_ok, Bool.false_eq_true, if_false, run_load, ha]
  simp [hk, hl, he, hm]
theorem rl_set {v x val : Value} {T : TypeId} {a b : Addr} {fl fl' : Nat} {w' : World} (hp : (ReflectliteValue.parts v).run P w = .ok (some (T, a, fl)) w) (hx : (ReflectliteValue.parts x).run P w = .ok (some (T, b, fl')) w)
    (hf : (fl / ReflectliteValue.flagAddr % 2 == 0) = false) (hl : (loadVar T b).run P w = .ok val w) (hd : (Rtype.directlyAssignable T T).run P w = .ok true w) (hs : (storeVar T a val).run P w = .ok () w') :
    (ReflectliteValue.set #[v, x]).run P w = .ok (.tuple #[]) w' := by
  rw [rls]
  simp only [Sem.run_bind, hp, hx, Result.andThen_ok, hf, Bool.false_eq_true, if_false, hl, hd, if_true, hs, Sem.run_pure]
theorem load_of_s {T : TypeId} {a : Addr} {v : Value} (h : (sLoad T (.pointer (some a))).run P w = .ok (.value v) w) : (loadVar T a).run P w = .ok v w := by
  have h' := load_pointer h
  simpa [asAddr] using h'
theorem store_of_s {T : TypeId} {a : Addr} {v : Value} {w' : World} (h : (sStore T (.pointer (some a)) v).run P w = .ok .skip w') : (storeVar T a v).run P w = .ok () w' := by
  unfold sStore at h
  simp only [Instr.storeAt, Instr.sureAddr, pure_bind, Sem.run_bind] at h
  cases hr : (storeVar T a v).run P w with
  | ok u w2 =>
    rw [hr] at h
    simp at h
    obtain ⟨rfl⟩ := h
    rfl
  | halt x w2 => rw [hr] at h; simp at h
end
end Go.X

/-! XPan -/
namespace Go.X
set_option linter.unusedSimpArgs false
set_option linter.unusedVariables false
open Go
/-- panic(v): never reached in a proof. -/
def sPanic (v : Value) : Sem Next := do pure (.value (← Instr.panic v))
end Go.X

/-! XArr -/
namespace Go.X
set_option linter.unusedSimpArgs false
set_option linter.unusedVariables false
open Go Go.RowKit

/-! ## Arrays -/
def arrB (P : Program) (T E : TypeId) (n : Nat) : Prop := P.underlying T = some (.array n E)
section
variable {P : Program} {T E : TypeId} {K : Value → Prop} {w : World}
theorem xP_IAarr {b o n sz i : Nat} {q : IntKind} (h : arrB P T E n) (hs : sizeB P E sz = true) (h1 : i < n) :
    xP P (sIA T (.pointer (some ⟨b, o, none⟩)) (.int q i)) K ↔ K (.pointer (some ⟨b, o + i * sz, none⟩)) := by
  refine xP_of fun w => ?_
  obtain ⟨e, he, hsz⟩ := sizeB_spec hs
  unfold arrB at h
  unfold sIA
  refine run_sB P _ w ?_
  have h1' : (i : Int) < n := by omega
  simp [Instr.indexAt, asIntOf, run_underlying h, Instr.sureAddr, Sem.run_bind, sizeOf_run he hsz, h1, add_none]
theorem xP_idxArr {n i sz : Nat} {q : IntKind} {cs : Array Value} {v : Value} (h : arrB P T E n) (hs : oneB P E = true) (h1 : i < n) (hv : cs[i]? = some v) :
    xP P (sIndex T (.agg cs) (.int q i)) K ↔ K v := by
  refine xP_of fun w => ?_
  obtain ⟨e, he, hsz⟩ := oneB_size hs
  unfold arrB at h
  unfold sIndex
  refine run_sB P _ w ?_
  have h1' : (i : Int) < n := by omega
  simp [Instr.index, asIntOf, run_underlying h, Sem.run_bind, sizeOf_run he hsz, h1, part, isAgg_one hs, hv]
/-- a[i:j] of an array that lies at an address. -/
theorem xP_sliceArr {b o n sz i j : Nat} {q q' : IntKind} (h : arrB P T E n) (hs : sizeB P E sz = true) (h1 : i ≤ j) (h2 : j ≤ n) :
    xP P (sSlice T (.pointer (some ⟨b, o, none⟩)) (some (.int q i)) (some (.int q' j)) none) K ↔ K (.slice (some ⟨b, if n = i then o else o + i * sz, none⟩) (j - i) (n - i)) := by
  refine xP_of fun w => ?_
  obtain ⟨e, he, hsz⟩ := sizeB_spec hs
  unfold arrB at h
  unfold sSlice
  refine run_sB P _ w ?_
  have e1 : (if n = i then (⟨b, o, none⟩ : Addr) else ⟨b, o + i * sz, none⟩) = ⟨b, if n = i then o else o + i * sz, none⟩ := by split <;> rfl
  simp [Instr.sliceAt, run_underlying h, Instr.sureAddr, Instr.sliceBounds, Instr.sliceBound, asIntOf, h1, h2, sizeOf_run he hsz, add_none, e1]
theorem xP_wholeArr {b o n sz : Nat} (h : arrB P T E n) (hs : sizeB P E sz = true) :
    xP P (sSlice T (.pointer (some ⟨b, o, none⟩)) none none none) K ↔ K (.slice (some ⟨b, o, none⟩) n n) := by
  refine xP_of fun w => ?_
  obtain ⟨e, he, hsz⟩ := sizeB_spec hs
  unfold arrB at h
  unfold sSlice
  refine run_sB P _ w ?_
  simp [Instr.sliceAt, run_underlying h, Instr.sureAddr, Instr.sliceBounds, Instr.sliceBound, asIntOf, sizeOf_run he hsz, add_none]

/-! ## Truth values -/
def boolB (P : Program) (T : TypeId) : Prop := P.underlying T = some .bool
theorem xR_eqlBool {c a b : Bool} (h : boolB P T) : xR P (sEq .eql T c (.bool a) (.bool b)) w K ↔ K (.bool (a == b)) := xR_of (by
  unfold sEq
  refine run_sB P _ w ?_
  have : eqGuard .eql T (bif c then .const undef else .tmp 0) (.tmp 0) (.bool a) (.bool b) = pure () := by cases c <;> rfl
  rw [this]
  simp only [pure_bind]
  exact run_eql_bool w T a b h)
theorem xR_neqBool {c a b : Bool} (h : boolB P T) : xR P (sEq .neq T c (.bool a) (.bool b)) w K ↔ K (.bool (!(a == b))) := xR_of (by
  unfold sEq
  refine run_sB P _ w ?_
  have : eqGuard .neq T (bif c then .const undef else .tmp 0) (.tmp 0) (.bool a) (.bool b) = pure () := by cases c <;> rfl
  rw [this]
  simp only [pure_bind]
  simp only [binOp, Op.equal, Op.maxDepth]
  have e : ∀ d : Nat, (Op.equalIn (d + 1) T (.bool a) (.bool b)).run P w = .ok (a == b) w := fun d => by
    unfold boolB at h
    simp [Op.equalIn, run_underlying h]
  have := e 9999
  simp [this])

/-! ## Maps -/
theorem xR_eqlMapNil {c : Bool} {r : Nat} {k e : TypeId} (h : P.underlying T = some (.map k e)) : xR P (sEq .eql T c (.map (some r)) (.map none)) w K ↔ K (.bool false) := xR_of (by
  unfold sEq
  refine run_sB P _ w ?_
  have : eqGuard .eql T (bif c then .const undef else .tmp 0) (.tmp 0) (.map (some r)) (.map none) = pure () := by cases c <;> rfl
  rw [this]
  simp only [pure_bind]
  simp only [binOp, Op.equal, Op.maxDepth]
  have e : ∀ d : Nat, (Op.equalIn (d + 1) T (.map (some r)) (.map none)).run P w = .ok false w := fun d => by
    simp [Op.equalIn, run_underlying h]
  have := e 9999
  simp [this])
theorem xP_assertV {t a : TypeId} {v : Value} (h : concB P a = true) : xP P (sAssert (.iface a v) t a false) K ↔ K v := xP_of fun w => by
  unfold concB at h
  unfold sAssert
  refine run_sB P _ w ?_
  cases hu : P.underlying a with
  | none => rw [hu] at h; cases h
  | some d =>
    rw [hu] at h
    simp only [Instr.typeAssert, Sem.run_bind, run_underlying hu, Result.andThen_ok]
    cases d <;> first | (simp; done) | cases h
end
theorem clone_run {α : Type} {val : α → Value} {P : Program} {w : World} {r : Nat} {l : List (Int × α)} (t : TypeId) (h : MapOf w r val l) :
    ∃ w', (Extern.MapsClone.clone #[.iface t (.map (some r))]).run P w = .ok (.iface t (.map (some w.heap.size))) w' ∧ MapOf w' w.heap.size val l ∧ Kept [] w w' ∧ w'.heap.size = w.heap.size + 1 := by
  obtain ⟨es, clock, hb, hh⟩ := h
  have e : Extern.MapsClone.clone #[.iface t (.map (some r))] = (getObj r >>= fun o => match o with
      | .map entries clock => (newObj (.map entries clock) >>= fun n => pure (.iface t (.map (some n))))
      | _ => stuck "maps.clone: a map expected") := rfl
  refine ⟨w.alloc (.map es clock), ?_, ⟨es, clock, heap_alloc_new w _, hh⟩, kept_alloc _ _ _, by simp⟩
  rw [e]
  simp [MapKept.run_getObj_map hb, Result.andThen]
/-! ## Fields of elements -/
theorem RowB.fld {α : Type} {P : Program} {T E X : TypeId} {sz f off i : Nat} {enc : α → List Value} {val : α → Value} {w w' : World} {K : Value → Prop} (hr : RowB P T E sz enc val) {l : List α} {a0 u : Value} {q : IntKind} (hsl : SlT w enc a0 l) (hk : Kept [] w w') (hi : i < l.length)
    (hf : fieldB P E f off = true) (h1 : oneB P X = true) (hu : (enc l[i])[off]? = some u) :
    (xP P (sIA T a0 (.int q i)) fun v => xP P (sFA E v f) fun c => xR P (sLoad X c) w' K) ↔ K u := by
  obtain ⟨b, o, c, rfl, hat⟩ := hsl.elem hr.len hi
  rw [xP_IAn hr.sl hr.size hi, xP_FA hf]
  exact ld1 h1 (at_cell (hat.kept hk (by simp)) hu)
theorem slT_blk {α : Type} {w : World} {enc : α → List Value} {E : TypeId} {b : Nat} {l : List α} (h : Blk w b E (l.flatMap enc)) : SlT w enc (.slice (some ⟨b, 0, none⟩) l.length l.length) l :=
  ⟨_, _, rfl, Nat.le_refl _, .inr ⟨b, 0, rfl, h.at⟩⟩
/-- The test of a loop 'i < len(l) && i < M'. -/
theorem xTest2 {P : Program} {T E I : TypeId} {w : World} {a : Option Addr} {n c i : Nat} {M : Int} {b2 : List Value → Env → World → Prop} (hT : sliceB P T E = true)
    (k1 : i < n → (i : Int) < M → ∀ junk, b2 [.bool true] junk w) (k2 : ¬ (i < n ∧ (i : Int) < M) → ∀ junk, b2 [.bool false] junk w) :
    xJoin (fun J => xP P (sB .len #[T] #[.slice a n c]) fun v => xP P (sBin .lss I (.int .i64 i) v) fun u => xIf u (xP P (sBin .lss I (.int .i64 i) (.int .i64 M)) fun x => J [x] w) (J [.bool false] w)) b2 := by
  refine xJoin_one ?_
  refine (xP_len hT).2 ?_
  simp only [xP_lss, xIf_dec]
  refine ⟨fun h1 => ?_, fun h1 => k2 (by omega)⟩
  by_cases h : (i : Int) < M
  · rw [decide_eq_true h]; exact k1 (by omega) h
  · rw [decide_eq_false h]; exact k2 (by omega)
/-- The same, where the address is asked once more. -/
theorem RowB.fldA {α : Type} {P : Program} {T E X : TypeId} {sz f off i : Nat} {enc : α → List Value} {val : α → Value} {w w' : World} {K : Value → Value → Prop} (hr : RowB P T E sz enc val) {l : List α} {a0 u : Value} {q : IntKind} (hsl : SlT w enc a0 l) (hk : Kept [] w w') (hi : i < l.length)
    (hf : fieldB P E f off = true) (h1 : oneB P X = true) (hu : (enc l[i])[off]? = some u) (k : ∀ A : Addr, (∀ w'', Kept [] w w'' → w''.cell? A = some u) → K (.pointer (some A)) u) :
    (xP P (sIA T a0 (.int q i)) fun v => xP P (sFA E v f) fun c => xR P (sLoad X c) w' fun u => K c u) := by
  obtain ⟨b, o, c, rfl, hat⟩ := hsl.elem hr.len hi
  rw [xP_IAn hr.sl hr.size hi, xP_FA hf]
  refine (ld1 h1 (at_cell (hat.kept hk (by simp)) hu)).2 (k _ fun w'' hk' => at_cell (hat.kept hk' (by simp)) hu)
theorem xP_t0 {P : Program} {K : Value → Prop} {a b c : Value} : xP P (sExtract (.tuple #[a, b, c]) 0) K ↔ K a := xP_extract rfl
theorem xP_t1 {P : Program} {K : Value → Prop} {a b c : Value} : xP P (sExtract (.tuple #[a, b, c]) 1) K ↔ K b := xP_extract rfl
theorem xP_t2 {P : Program} {K : Value → Prop} {a b c : Value} : xP P (sExtract (.tuple #[a, b, c]) 2) K ↔ K c := xP_extract rfl
end Go.X

/-! XConv -/
namespace Go.X
set_option linter.unusedSimpArgs false
set_option linter.unusedVariables false
open Go Go.RowKit Go.Lib

theorem kept_bytesWorld (w : World) (e : TypeId) (s : ByteArray) : Kept [] w (bytesWorld w e s) :=
  ⟨rfl, rfl, rfl, by rw [bytesWorld_size]; omega, fun k hk _ => bytesWorld_at_old w e s k hk⟩
/-- []byte(s) -/
theorem xE_toBytes {P : Program} {w : World} {K : Value → World → Prop} {S D E : TypeId} {s : ByteArray} (hS : strB P S) (hD : P.underlying D = some (.slice E)) (hE : P.underlying E = some (.int .u8))
    (k : ∀ w' c, SlT w' encB (.slice (some ⟨w.heap.size, 0, none⟩) s.size c) (bytesOf s) → Kept [] w w' → K (.slice (some ⟨w.heap.size, 0, none⟩) s.size c) w') : xE P (sConv S D (.string s)) w K := by
  refine (xE_of (v := .slice (some ⟨w.heap.size, 0, none⟩) s.size (grownCap w s.size 0 E)) (w' := bytesWorld w E s) ?_).2 (k _ _ ?_ (kept_bytesWorld w E s))
  · unfold sConv
    exact run_sB P _ w (Go.Lib.run_convert_string_bytes w S D E s hS hD hE)
  · have hl := bytesOf_len s
    refine ⟨_, _, by rw [hl], by rw [hl]; exact grownCap_ge w s.size 0 E, .inr ⟨_, _, rfl, fun j hj => ?_⟩⟩
    rw [flat_len encB_len, Nat.mul_one, hl] at hj
    rw [Nat.zero_add, bytesWorld_cell w E s j hj, flat_B, List.getElem?_map]
    have : j < (bytesOf s).length := by rw [hl]; exact hj
    rw [List.getElem?_eq_getElem this]
    simp only [Option.map_some, bytesOf, List.getD_eq_getElem?_getD]
    have h2 : j < s.data.toList.length := this
    rw [List.getElem?_eq_getElem h2]
    rfl
theorem wrapU_nat (b : Int) : ∃ n : Nat, IntKind.u64.wrap b = (n : Int) ∧ lowB (n : Int) 8 = lowB b 8 := by
  have e : IntKind.u64.wrap b = b % 18446744073709551616 := by simp [IntKind.wrap, IntKind.bits, IntKind.signed]
  obtain ⟨n, hn⟩ := Int.eq_ofNat_of_zero_le (Int.emod_nonneg b (show (18446744073709551616 : Int) ≠ 0 by omega))
  refine ⟨n, by rw [e]; exact hn, ?_⟩
  unfold lowB
  apply List.map_congr_left
  intro i hi
  rw [List.mem_range] at hi
  have h2 : (n : Int) = b % 18446744073709551616 := hn.symm
  rw [h2]
  congr 2
  rcases i with _ | _ | _ | _ | _ | _ | _ | _ | i
  · simp only [Nat.mul_zero, Int.pow_zero, Int.ediv_one]; omega
  · simp only [Nat.reduceAdd, Nat.reduceMul, Int.reducePow]; omega
  · simp only [Nat.reduceAdd, Nat.reduceMul, Int.reducePow]; omega
  · simp only [Nat.reduceAdd, Nat.reduceMul, Int.reducePow]; omega
  · simp only [Nat.reduceAdd, Nat.reduceMul, Int.reducePow]; omega
  · simp only [Nat.reduceAdd, Nat.reduceMul, Int.reducePow]; omega
  · simp only [Nat.reduceAdd, Nat.reduceMul, Int.reducePow]; omega
  · simp only [Nat.reduceAdd, Nat.reduceMul, Int.reducePow]; omega
  · omega
end Go.X

/-! XCopy -/
namespace Go.X
set_option linter.unusedSimpArgs false
set_option linter.unusedVariables false
open Go Go.RowKit

/-- copy into the beginning of a row of one's own. -/
theorem xE_copy {α : Type} {P : Program} {w : World} {K : Value → World → Prop} {D S E T' : TypeId} {enc : α → List Value} {b o n c : Nat} {cur : List Value} {sv : Value} {l : List α}
    (hD : sliceB P D E = true) (hE : sizeB P E 1 = true) (hb : Blk w b T' cur) (hfit : o + l.length ≤ cur.length) (hs : SlT w enc sv l) (h1 : ∀ x, (enc x).length = 1) (h1c : ∀ x, ∀ u ∈ enc x, u.oneCell' = true) (hn : l.length ≤ n)
    (k : ∀ w', Blk w' b T' (cur.take o ++ l.flatMap enc ++ cur.drop (o + l.length)) → Kept [b] w w' → w'.heap.size = w.heap.size → K (.int .i64 l.length) w') :
    xE P (sB .copy #[D, S] #[.slice (some ⟨b, o, none⟩) n c, sv]) w K := by
  have hu := sliceB_spec hD
  obtain ⟨i, hi, hsz⟩ := sizeB_spec hE
  have hinfo : (P.info? E).map (·.size) = some 1 := by rw [hi]; simp [hsz]
  obtain ⟨a, sc, rfl, hsc, hrow⟩ := hs
  have hfl : (l.flatMap enc).length = l.length := by rw [flat_len h1, Nat.mul_one]
  by_cases h0 : l = []
  · subst h0
    refine (xE_of (v := .int .i64 0) (w' := w) ?_).2 ?_
    · show (do pure (Next.value (← Builtin.copy_ #[D, S] 0 #[.slice (some ⟨b, o, none⟩) n c, .slice a 0 sc])) : Sem Next).run P w = _
      exact run_sB P _ w (run_copy_none w D S 0 E _ a n c 0 sc hu hinfo (by simp))
    · refine k w ?_ (Kept.refl _ _) rfl
      simpa using hb
  · obtain ⟨sb, so, rfl, hat⟩ := hrow.resolve_left h0
    have hcs : (l.flatMap enc).length = Nat.min l.length n := by rw [hfl]; exact (Nat.min_eq_left hn).symm
    have hsrc : ∀ j v, (l.flatMap enc)[j]? = some v → w.cell? ((⟨sb, so, none⟩ : Addr).add j) = some v := fun j v hj => by
      rw [add_none, hat j (List.getElem?_eq_some_iff.1 hj).1, hj]
    have hone : ∀ v ∈ l.flatMap enc, v.oneCell' = true := fun v hv => by
      obtain ⟨x, _, hx⟩ := List.mem_flatMap.1 hv
      exact h1c x v hx
    have hcell : ∀ j, j < (l.flatMap enc).length → (w.cell? ⟨b, o + j, none⟩).isSome = true := fun j hj => by
      rw [hb.cell, List.getElem?_eq_getElem (by omega)]; rfl
    have hfz : ∀ j, j < (l.flatMap enc).length → w.frozen? ⟨b, o + j, none⟩ = false := fun j _ => hb.frozen
    have hr := run_copy_cells (P := P) w D S 0 E b o n c ⟨sb, so, none⟩ l.length sc (l.flatMap enc) hu hinfo hcs hsrc hcell hfz hone
    have hsplit : cur = cur.take o ++ (cur.drop o).take l.length ++ cur.drop (o + l.length) := by
      rw [← List.drop_drop, List.append_assoc, List.take_append_drop, List.take_append_drop]
    obtain ⟨w', hst, hb', hk', hz'⟩ := storeCells_run (P := P) b o T' (l.flatMap enc) (cur.take o) ((cur.drop o).take l.length) (cur.drop (o + l.length)) w 0 (hsplit ▸ hb) (by rw [hfl, List.length_take, List.length_drop]; omega) hone (by rw [List.length_take]; omega)
    have hst2 := run_storeCells_cells (P := P) b o (l.flatMap enc) 0 w (by simpa using hcell) (by simpa using hfz) hone
    rw [hst2] at hst
    have hw : w.setCells b o (l.flatMap enc) = w' := by simpa using hst
    refine (xE_of (v := .int .i64 l.length) (w' := w') ?_).2 (k w' hb' hk' hz')
    show (do pure (Next.value (← Builtin.copy_ #[D, S] 0 #[.slice (some ⟨b, o, none⟩) n c, .slice (some ⟨sb, so, none⟩) l.length sc])) : Sem Next).run P w = _
    rw [hw, hfl] at hr
    exact run_sB P _ w hr
end Go.X
