import Derived.Test.YtbfaglbfpmnnmaaDoorXOwn
import Derived.Deep.Slices
import Derived.Deep.Fields
import Derived.ChangeSame
import Derived.ProofKit
namespace Go.X
set_option linter.unusedSimpArgs false
set_option linter.unusedVariables false
open Go Go.RowKit Go.ChangeShapes Go.WideShapes Go.Deep

/-! ## Structs of ints, compared -/
def intAt (xs : Array Value) (o : Nat) : Int := match xs[o]? with
  | some (.int _ n) => n
  | _ => 0
def intFieldB (P : Program) (f : Field) : Bool := (match P.underlying f.type with | some (.int k) => (match k with | .i64 => true | _ => false) | _ => false) && !(f.name == "_")
def structB (P : Program) (T : TypeId) (offs : List Nat) : Prop :=
  P.underlying T = some (.struct (P.fieldsOf T)) ∧ P.stoodInHeld T = false ∧ P.eqGuardType P.depth T = false ∧ (P.fieldsOf T).toList.all (intFieldB P) = true ∧ (P.fieldsOf T).toList.map (·.offset) = offs
section
variable {P : Program} {w : World} {T : TypeId}
theorem intField_one {f : Field} (h : intFieldB P f = true) : P.underlying f.type = some (.int .i64) ∧ (f.name == "_") = false := by
  unfold intFieldB at h
  simp only [Bool.and_eq_true, Bool.not_eq_true'] at h
  refine ⟨?_, h.2⟩
  have h1 := h.1
  split at h1
  · rename_i k hk
    cases k <;> first | exact hk | cases h1
  · cases h1
theorem isAgg_int {t : TypeId} (h : P.underlying t = some (.int .i64)) : (isAgg t).run P w = .ok false w := by
  unfold isAgg underlying
  simp [h]
theorem eqFields_ints {xs ys : Array Value} (hx : ∀ o, o < xs.size → ∃ n, xs[o]? = some (.int .i64 n)) (hy : ∀ o, o < ys.size → ∃ n, ys[o]? = some (.int .i64 n)) (d : Nat) : ∀ (fs : List Field), fs.all (intFieldB P) = true →
    (∀ f ∈ fs, f.offset < xs.size ∧ f.offset < ys.size) →
    (Op.eqFields (d + 1) xs ys fs).run P w = .ok (fs.all fun f => intAt xs f.offset == intAt ys f.offset) w
  | [], _, _ => rfl
  | f :: fs, h, hb => by
    simp only [List.all_cons, Bool.and_eq_true] at h
    obtain ⟨h1, h2⟩ := intField_one h.1
    obtain ⟨hb1, hb2⟩ := hb f List.mem_cons_self
    obtain ⟨a, ha⟩ := hx f.offset hb1
    obtain ⟨b, hb'⟩ := hy f.offset hb2
    have hne : f.name ≠ "_" := by simpa using h2
    have ih := eqFields_ints hx hy d fs h.2 (fun g hg => hb g (List.mem_cons_of_mem _ hg))
    have ea : intAt xs f.offset = a := by unfold intAt; rw [ha]
    have eb : intAt ys f.offset = b := by unfold intAt; rw [hb']
    simp only [Op.eqFields, hne, ne_eq, not_false_eq_true, if_true, Sem.run_bind, part, isAgg_int h1, Result.andThen_ok, Bool.false_eq_true, if_false, ha, hb', Sem.run_pure, run_equalIn_int w d f.type .i64 .i64 a b h1, List.all_cons, ea, eb]
    cases hab : (a == b)
    · simp
    · simp [ih]
theorem eq_struct {xs ys : Array Value} {offs : List Nat} (h : structB P T offs) (hx : ∀ o, o < xs.size → ∃ n, xs[o]? = some (.int .i64 n)) (hy : ∀ o, o < ys.size → ∃ n, ys[o]? = some (.int .i64 n)) (ho : ∀ o ∈ offs, o < xs.size ∧ o < ys.size) :
    (Op.equalIn 10000 T (.agg xs) (.agg ys)).run P w = .ok (offs.all fun o => intAt xs o == intAt ys o) w := by
  obtain ⟨h1, h2, h3, h4, h5⟩ := h
  rw [run_equalIn_struct w 9999 T xs ys h1 h2, eqFields_ints hx hy 9998 _ h4 (fun f hf => ho _ (by rw [← h5]; exact List.mem_map_of_mem hf)), ← h5, List.all_map]
  rfl
theorem run_sEq_agg {op : BinOp} {c : Bool} {xs ys : Array Value} (h3 : P.eqGuardType P.depth T = false) :
    (sEq op T c (.agg xs) (.agg ys)).run P w = ((binOp op T (.agg xs) (.agg ys)).run P w).andThen fun v w' => .ok (.value v) w' := by
  unfold sEq
  rw [run_value, Sem.run_bind, run_eqGuard_agg (w := w) op T _ _ xs ys h3]
  rfl
theorem xR_neqS {K : Value → Prop} {c : Bool} {xs ys : Array Value} {offs : List Nat} (h : structB P T offs) (hx : ∀ o, o < xs.size → ∃ n, xs[o]? = some (.int .i64 n)) (hy : ∀ o, o < ys.size → ∃ n, ys[o]? = some (.int .i64 n)) (ho : ∀ o ∈ offs, o < xs.size ∧ o < ys.size) :
    xR P (sEq .neq T c (.agg xs) (.agg ys)) w K ↔ K (.bool (!(offs.all fun o => intAt xs o == intAt ys o))) :=
  xR_of (by rw [run_sEq_agg h.2.2.1, run_neq_struct, eq_struct h hx hy ho]; rfl)
theorem xR_eqlS {K : Value → Prop} {c : Bool} {xs ys : Array Value} {offs : List Nat} (h : structB P T offs) (hx : ∀ o, o < xs.size → ∃ n, xs[o]? = some (.int .i64 n)) (hy : ∀ o, o < ys.size → ∃ n, ys[o]? = some (.int .i64 n)) (ho : ∀ o ∈ offs, o < xs.size ∧ o < ys.size) :
    xR P (sEq .eql T c (.agg xs) (.agg ys)) w K ↔ K (.bool (offs.all fun o => intAt xs o == intAt ys o)) :=
  xR_of (by rw [run_sEq_agg h.2.2.1, run_eql_struct, eq_struct h hx hy ho]; rfl)
end

/-! ## Arguments -/
section
variable {H : Type} {enc : TypeId × Value → H} {P : Program} {w : World} {base : Nat} {spare : Nat → Bool} {held : Bool}
theorem open_slice_fields {t e : TypeId} {fs : Array Field} {fuel : Nat} {cs : List Value} {x : DataW H × List MemPlace} (ht : P.underlying t = some (.slice e)) (he : P.underlying e = some (.struct fs))
    (hone : oneCellFields P fs = true) (hC : P.cellsOf e = fs.size) (h : DataW.trod enc P w base spare held fuel t cs = some x) :
    (cs = [.slice none 0 0] ∧ x = (.nil, [])) ∨
    ∃ (a : Addr) (len cap m : Nat), cs = [.slice (some a) len cap] ∧ len ≤ cap ∧ cap ≤ maxLen ∧ m = (if spare a.block then cap else len) ∧
      ∀ i, i < m → ∀ (j : Nat) (f : Field), fs[j]? = some f → ∃ (n : Nat) (v : Value) (y : DataW H × List MemPlace), w.cell? (a.add (i * fs.size + j)) = some v ∧ DataW.trod enc P w base spare held n f.type [v] = some y := by
  rcases open_slice ht h with h0 | ⟨a, len, cap, m, n, D, Pl, hcs, hb, hl, hm, hmm, hx, hi⟩
  · exact .inl h0
  · refine .inr ⟨a, len, cap, m, hcs, hl, hm, hmm, fun i him j f hj => ?_⟩
    obtain ⟨cs', hc, ht'⟩ := hi i him
    rw [hC] at hc
    obtain ⟨ys, n', hn', hy, hlen, hyl, hf⟩ := DataW.trod_struct he ht'
    obtain ⟨_, hcl, hat⟩ := World.cells?_some hc
    obtain ⟨ho, hk⟩ := hone_of hone j f hj
    have hjl : j < fs.size := (Array.getElem?_eq_some_iff.1 hj).1
    have hcell := hat j hjl
    have hv : cs'[j]? = some (cs'[j]'(by omega)) := List.getElem?_eq_getElem (by omega)
    have h1 := hf j f hj
    rw [ho, hk] at h1
    have hone' : (cs'.drop j).take 1 = [cs'[j]'(by omega)] := by
      rw [List.drop_eq_getElem_cons (by omega)]
      rfl
    rw [hone'] at h1
    have hys : ys[j]? = some (ys[j]'(by omega)) := List.getElem?_eq_getElem (by omega)
    refine ⟨n', _, _, ?_, h1.trans hys⟩
    rw [← Go.Deep.add_add, hcell, hv]
end

/-- A slice of structs of k ints that came in: its cells. -/
def intsB (P : Program) (T E : TypeId) (k : Nat) : Prop :=
  P.underlying T = some (.slice E) ∧ ∃ fs, P.underlying E = some (.struct fs) ∧ oneCellFields P fs = true ∧ P.cellsOf E = fs.size ∧ fs.size = k ∧ fs.toList.all (intFieldB P) = true
theorem open_int_structs {H : Type} {enc : TypeId × Value → H} {P : Program} {w : World} {T E : TypeId} {k : Nat} (hk0 : 0 < k) (hB : intsB P T E k) {v : Value} {d : DataW H} {p : List MemPlace} (hv : ∃ a n c, v = .slice a n c)
    (h : DataW.Trod enc P w 0 (fun _ => true) true T v d p) :
    ∃ a n c, v = .slice a n c ∧ n ≤ c ∧ (n = 0 ∨ ∃ b o, a = some ⟨b, o, none⟩ ∧ ∀ i, i < n → ∀ j, j < k → ∃ x, w.cell? ⟨b, o + (i * k + j), none⟩ = some (.int .i64 x) ∧ (Lit.int .i64 x).wf = true) := by
  obtain ⟨hT, fs, hE, hone, hC, hk, hall⟩ := hB
  obtain ⟨a, n, c, rfl⟩ := hv
  obtain ⟨fuel, hf⟩ := h
  rcases open_slice_fields hT hE hone hC hf with ⟨hcs, _⟩ | ⟨x, len, cap, m, hcs, hl, hm, hmm, hi⟩
  · simp [Value.cells] at hcs
    obtain ⟨rfl, rfl, rfl⟩ := hcs
    exact ⟨none, 0, 0, rfl, Nat.le_refl _, .inl rfl⟩
  · simp [Value.cells] at hcs
    obtain ⟨rfl, rfl, rfl⟩ := hcs
    refine ⟨_, _, _, rfl, hl, ?_⟩
    simp only [if_true] at hmm
    rcases Nat.eq_zero_or_pos n with h0 | h0
    · exact .inl h0
    · right
      have hcell : ∀ i, i < n → ∀ j, j < k → ∃ y, w.cell? (x.add (i * k + j)) = some (.int .i64 y) ∧ (Lit.int .i64 y).wf = true := by
        intro i hin j hj
        have hfj : fs[j]? = some fs[j] := Array.getElem?_eq_getElem (by omega)
        obtain ⟨q, u, y, hc, ht⟩ := hi i (by omega) j _ hfj
        have hty := (intField_one (List.all_eq_true.1 hall fs[j] (by simp))).1
        obtain ⟨z, hz, _, hwf⟩ := DataW.trod_int hty ht
        simp at hz
        subst hz
        rw [hk] at hc
        exact ⟨z, hc, hwf⟩
      obtain ⟨b, o, s⟩ := x
      have h1 := hcell 0 h0 0 hk0
      have hs : s = none := by
        cases s with
        | none => rfl
        | some q =>
          obtain ⟨y, hy, _⟩ := h1
          unfold World.cell? Addr.add at hy
          simp at hy
          split at hy <;> simp at hy
      subst hs
      refine ⟨b, o, rfl, fun i hin j hj => ?_⟩
      have := hcell i hin j hj
      rwa [add_none] at this
theorem at_flat {α : Type} {w : World} {enc : α → List Value} {sz b : Nat} (hsz : ∀ x, (enc x).length = sz) : ∀ (l : List α) (o : Nat), (∀ i x, l[i]? = some x → At w b (o + i * sz) (enc x)) → At w b o (l.flatMap enc)
  | [], o, _ => At.nil _ _ _
  | x :: l, o, h => by
    rw [List.flatMap_cons]
    intro j hj
    rcases Nat.lt_or_ge j (enc x).length with hlt | hge
    · rw [List.getElem?_append_left hlt]
      have := h 0 x (by simp) j hlt
      simpa using this
    · rw [List.getElem?_append_right hge]
      have ih := at_flat hsz l (o + sz) (fun i y hy => by
        have := h (i + 1) y (by simpa using hy)
        rwa [Nat.add_mul, Nat.one_mul, Nat.add_comm (i * sz) sz, ← Nat.add_assoc] at this)
      rw [List.length_append] at hj
      have := ih (j - (enc x).length) (by omega)
      rw [hsz x] at this hge ⊢
      rwa [show o + sz + (j - sz) = o + j by omega] at this
end Go.X
