import Derived.Test.YtbfaglbfpmnnmaaDoorXLib5
namespace Go.X
set_option linter.unusedSimpArgs false
set_option linter.unusedVariables false
open Go Go.RowKit Go.ChangeShapes Go.WideShapes Go.Deep

/-! ## Arguments opened, by parts -/
/-- Whatever reads at type T is 'enc y' for some y that is 'ok'. -/
def OpensE {α : Type} (P : Program) (w : World) (T : TypeId) (enc : α → List Value) (ok : α → Prop) : Prop :=
  ∀ (H : Type) (e0 : TypeId × Value → H) (fuel : Nat) (cs : List Value) (x : DataW H × List MemPlace), DataW.trod e0 P w 0 (fun _ => true) true fuel T cs = some x → ∃ y, cs = enc y ∧ ok y
section
variable {α : Type} {P : Program} {w : World} {T E : TypeId} {enc : α → List Value} {ok : α → Prop} {sz : Nat}
theorem opens_int (h : P.underlying T = some (.int .i64)) : OpensE P w T encI fun n => -9223372036854775808 ≤ n ∧ n ≤ 9223372036854775807 := by
  intro H e0 fuel cs x hx
  obtain ⟨n, rfl, _, hw⟩ := DataW.trod_int h hx
  exact ⟨n, rfl, wf_i64 hw⟩
theorem opens_byte (h : P.underlying T = some (.int .u8)) : OpensE P w T encB fun _ => True := by
  intro H e0 fuel cs x hx
  obtain ⟨n, rfl, _, hw⟩ := DataW.trod_int h hx
  have hb : 0 ≤ n ∧ n ≤ 255 := by simpa [Lit.wf, IntKind.min, IntKind.max, IntKind.signed, IntKind.bits] using hw
  refine ⟨UInt8.ofNat n.toNat, ?_, trivial⟩
  simp only [encB, List.cons.injEq, Value.int.injEq, true_and, and_true]
  rw [UInt8.toNat_ofNat']
  omega
theorem opens_str (h : P.underlying T = some .string) : OpensE P w T encS fun s => s.size ≤ maxLen := by
  intro H e0 fuel cs x hx
  obtain ⟨s, rfl, _, hs⟩ := DataW.trod_string h hx
  exact ⟨s, rfl, hs⟩
theorem choose_list {R : Nat → α → Prop} : ∀ n : Nat, (∀ i, i < n → ∃ y, R i y) → ∃ l : List α, l.length = n ∧ ∀ i y, l[i]? = some y → R i y
  | 0, _ => ⟨[], rfl, fun i y h => by simp at h⟩
  | n + 1, h => by
    obtain ⟨l, hl, hr⟩ := choose_list n (fun i hi => h i (by omega))
    obtain ⟨y, hy⟩ := h n (by omega)
    refine ⟨l ++ [y], by simp [hl], fun i z hz => ?_⟩
    rcases Nat.lt_trichotomy i n with hi | hi | hi
    · rw [List.getElem?_append_left (by omega)] at hz
      exact hr i z hz
    · subst hi
      rw [List.getElem?_append_right (by omega), hl, Nat.sub_self] at hz
      simp at hz
      subst hz
      exact hy
    · rw [List.getElem?_eq_none (by simp; omega)] at hz
      cases hz
theorem sub_none {x : Addr} {k : Nat} {v : Value} (h : w.cell? (x.add k) = some v) (hk : k = 0) : ∃ b o, x = ⟨b, o, none⟩ := by
  subst hk
  obtain ⟨b, o, s⟩ := x
  cases s with
  | none => exact ⟨b, o, rfl⟩
  | some q =>
    unfold World.cell? Addr.add at h
    simp at h
    split at h <;> simp at h
theorem opens_slice (hT : P.underlying T = some (.slice E)) (hC : P.cellsOf E = sz) (hl : ∀ y, (enc y).length = sz) (hsz : 0 < sz) (hE : OpensE P w E enc ok) :
    ∀ (H : Type) (e0 : TypeId × Value → H) (fuel : Nat) (cs : List Value) (x : DataW H × List MemPlace), DataW.trod e0 P w 0 (fun _ => true) true fuel T cs = some x →
      ∃ v l, cs = [v] ∧ SlT w enc v l ∧ (∀ y ∈ l, ok y) ∧ l.length ≤ maxLen := by
  intro H e0 fuel cs x hx
  rcases open_slice hT hx with ⟨rfl, _⟩ | ⟨a, len, cap, m, n, D, Pl, rfl, hb, hlc, hm, hmm, hxx, hi⟩
  · exact ⟨_, [], rfl, SlT.nil_ w enc, by simp, by unfold maxLen; simp⟩
  · simp only [if_true] at hmm
    have key : ∀ i, i < len → ∃ y, ok y ∧ ∀ j, j < sz → w.cell? ((a.add (i * sz)).add j) = (enc y)[j]? := by
      intro i hil
      obtain ⟨cs', hc, ht⟩ := hi i (by omega)
      rw [hC] at hc
      obtain ⟨_, hcl, hat⟩ := World.cells?_some hc
      obtain ⟨y, rfl, hy⟩ := hE H e0 n cs' _ ht
      exact ⟨y, hy, fun j hj => hat j hj⟩
    obtain ⟨l, hll, hr⟩ := choose_list len key
    refine ⟨_, l, rfl, ⟨some a, cap, by rw [hll], by omega, ?_⟩, fun y hy => ?_, by omega⟩
    · rcases Nat.eq_zero_or_pos len with h0 | h0
      · left; exact List.eq_nil_of_length_eq_zero (by omega)
      · right
        obtain ⟨y0, hy0, hc0⟩ := key 0 h0
        have h1 := hc0 0 hsz
        rw [List.getElem?_eq_getElem (by rw [hl]; exact hsz)] at h1
        rw [Nat.zero_mul] at h1
        have hadd : (a.add 0).add 0 = a.add 0 := by rw [Go.Deep.add_add]
        rw [hadd] at h1
        obtain ⟨b, o, rfl⟩ := sub_none h1 rfl
        refine ⟨b, o, rfl, at_flat hl l o fun i y hy => ?_⟩
        intro j hj
        have := (hr i y hy).2 j (by rw [hl] at hj; exact hj)
        rw [add_none, add_none] at this
        exact this
    · obtain ⟨i, hil, rfl⟩ := List.getElem_of_mem hy
      exact (hr i _ (List.getElem?_eq_getElem hil)).1
/-- A struct of one-cell fields: each field's own reading. -/
theorem trod_fields {fs : Array Field} (hE : P.underlying T = some (.struct fs)) (hone : oneCellFields P fs = true) (hC : P.cellsOf T = fs.size) {H : Type} {e0 : TypeId × Value → H} {fuel : Nat} {cs : List Value} {x : DataW H × List MemPlace}
    (h : DataW.trod e0 P w 0 (fun _ => true) true fuel T cs = some x) : cs.length = fs.size ∧ ∀ (j : Nat) (f : Field), fs[j]? = some f → ∃ (v : Value) (n : Nat) (y : DataW H × List MemPlace), cs[j]? = some v ∧ DataW.trod e0 P w 0 (fun _ => true) true n f.type [v] = some y := by
  obtain ⟨ys, n', hn', hy, hlen, hyl, hf⟩ := DataW.trod_struct hE h
  rw [hC] at hlen
  refine ⟨hlen, fun j f hj => ?_⟩
  obtain ⟨ho, hk⟩ := hone_of hone j f hj
  have hjl : j < fs.size := (Array.getElem?_eq_some_iff.1 hj).1
  have h1 := hf j f hj
  rw [ho, hk] at h1
  have hone' : (cs.drop j).take 1 = [cs[j]'(by omega)] := by
    rw [List.drop_eq_getElem_cons (by omega)]
    rfl
  rw [hone'] at h1
  exact ⟨cs[j]'(by omega), n', ys[j]'(by omega), List.getElem?_eq_getElem (by omega), h1.trans (List.getElem?_eq_getElem (by omega))⟩
def structOf (P : Program) (T : TypeId) (types : List TypeId) : Prop := P.underlying T = some (.struct (P.fieldsOf T)) ∧ oneCellFields P (P.fieldsOf T) = true ∧ P.cellsOf T = (P.fieldsOf T).size ∧ (P.fieldsOf T).toList.map (·.type) = types
theorem trod_struct_types {types : List TypeId} (hs : structOf P T types) {H : Type} {e0 : TypeId × Value → H} {fuel : Nat} {cs : List Value} {x : DataW H × List MemPlace}
    (h : DataW.trod e0 P w 0 (fun _ => true) true fuel T cs = some x) : cs.length = types.length ∧ ∀ (j : Nat) (t : TypeId), types[j]? = some t → ∃ (v : Value) (n : Nat) (y : DataW H × List MemPlace), cs[j]? = some v ∧ DataW.trod e0 P w 0 (fun _ => true) true n t [v] = some y := by
  obtain ⟨h1, h2, h3, h4⟩ := hs
  obtain ⟨hl, hf⟩ := trod_fields h1 h2 h3 h
  subst h4
  refine ⟨by rw [hl]; simp, fun j t hj => ?_⟩
  rw [List.getElem?_map] at hj
  cases hg : (P.fieldsOf T).toList[j]? with
  | none => rw [hg] at hj; cases hj
  | some f =>
    rw [hg] at hj
    cases hj
    exact hf j f (by simpa using hg)
theorem open_arg_struct {types : List TypeId} (hs : structOf P T types) {r : Reach} {b0 : Nat} {H : Type} {e0 : TypeId × Value → H} {v : Value} {d : DataW H} {p : List MemPlace}
    (hv : Value.okWide P w r b0 T v) (h : DataW.Trod e0 P w 0 (fun _ => true) true T v d p) : ∃ cs : List Value, v = .agg cs.toArray ∧ cs.length = types.length ∧ ∀ (j : Nat) (t : TypeId), types[j]? = some t → ∃ (v : Value) (n : Nat) (y : DataW H × List MemPlace), cs[j]? = some v ∧ DataW.trod e0 P w 0 (fun _ => true) true n t [v] = some y := by
  obtain ⟨cs, rfl, _⟩ := okWide_struct hs.1 hv
  obtain ⟨fuel, hf⟩ := h
  obtain ⟨h1, h2⟩ := trod_struct_types hs hf
  exact ⟨cs.toList, by simp, h1, h2⟩
theorem open_arg_slice (hT : P.underlying T = some (.slice E)) (hC : P.cellsOf E = sz) (hl : ∀ y, (enc y).length = sz) (hsz : 0 < sz) (hE : OpensE P w E enc ok) {r : Reach} {b0 : Nat} {H : Type} {e0 : TypeId × Value → H} {v : Value} {d : DataW H} {p : List MemPlace}
    (hv : Value.okWide P w r b0 T v) (h : DataW.Trod e0 P w 0 (fun _ => true) true T v d p) : ∃ l, SlT w enc v l ∧ (∀ y ∈ l, ok y) ∧ l.length ≤ maxLen := by
  obtain ⟨a, n, c, rfl⟩ := okWide_slice hT hv
  obtain ⟨fuel, hf⟩ := h
  obtain ⟨v, l, hcs, hs, ho, hm⟩ := opens_slice hT hC hl hsz hE H e0 fuel _ _ hf
  simp [Value.cells] at hcs
  subst hcs
  exact ⟨l, hs, ho, hm⟩
end
end Go.X
