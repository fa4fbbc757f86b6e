import Derived.Test.YtbfaglbfpmnnmaaDoorXReplyS
namespace Go.X
set_option linter.unusedSimpArgs false
set_option linter.unusedVariables false
open Go Go.RowKit

/-! ## Structs of ints and strings, compared -/
def fieldSig (P : Program) (f : Field) : Option (Nat × Bool) := if f.name == "_" then none else match P.underlying f.type with
  | some (.int k) => (match k with | .i64 => some (f.offset, false) | _ => none)
  | some .string => some (f.offset, true)
  | _ => none
def flatB (P : Program) (T : TypeId) (sig : List (Nat × Bool)) : Prop :=
  P.underlying T = some (.struct (P.fieldsOf T)) ∧ P.stoodInHeld T = false ∧ P.eqGuardType P.depth T = false ∧ (P.fieldsOf T).toList.map (fieldSig P) = sig.map some
def CellOK (xs : Array Value) (s : Nat × Bool) : Prop := match s.2 with
  | false => ∃ n, xs[s.1]? = some (.int .i64 n)
  | true => ∃ t, xs[s.1]? = some (.string t)
def cellEq : Option Value → Option Value → Bool
  | some (.int _ a), some (.int _ b) => decide (a = b)
  | some (.string a), some (.string b) => decide (a = b)
  | _, _ => false
section
variable {P : Program} {w : World} {T : TypeId}
theorem fieldSig_spec {f : Field} {s : Nat × Bool} (h : fieldSig P f = some s) : f.name ≠ "_" ∧ f.offset = s.1 ∧ ((s.2 = false ∧ P.underlying f.type = some (.int .i64)) ∨ (s.2 = true ∧ P.underlying f.type = some .string)) := by
  unfold fieldSig at h
  split at h
  · cases h
  · rename_i hn
    refine ⟨by simpa using hn, ?_⟩
    split at h
    · rename_i k hk
      cases k <;> simp at h
      subst h
      exact ⟨rfl, .inl ⟨rfl, hk⟩⟩
    · rename_i hk
      cases h
      exact ⟨rfl, .inr ⟨rfl, hk⟩⟩
    · cases h
theorem isAgg_str {t : TypeId} (h : P.underlying t = some .string) : (isAgg t).run P w = .ok false w := by
  unfold isAgg underlying
  simp [h]
theorem eqFields_flat {xs ys : Array Value} (d : Nat) : ∀ (fs : List Field) (sig : List (Nat × Bool)), fs.map (fieldSig P) = sig.map some → (∀ s ∈ sig, CellOK xs s ∧ CellOK ys s) →
    (Op.eqFields (d + 1) xs ys fs).run P w = .ok (sig.all fun s => cellEq xs[s.1]? ys[s.1]?) w
  | [], [], _, _ => rfl
  | [], s :: sig, h, _ => by cases h
  | f :: fs, [], h, _ => by cases h
  | f :: fs, s :: sig, h, hc => by
    simp only [List.map_cons, List.cons.injEq] at h
    obtain ⟨hne, ho, hty⟩ := fieldSig_spec h.1
    obtain ⟨hx, hy⟩ := hc s List.mem_cons_self
    have ih := eqFields_flat d fs sig h.2 (fun t ht => hc t (List.mem_cons_of_mem _ ht))
    obtain ⟨o, b⟩ := s
    simp only at ho
    rcases hty with ⟨hb, hty⟩ | ⟨hb, hty⟩
    · simp only at hb; subst hb
      obtain ⟨m, hm⟩ := hx
      obtain ⟨n, hn⟩ := hy
      simp only at hm hn
      simp only [Op.eqFields, hne, ne_eq, not_false_eq_true, if_true, Sem.run_bind, part, isAgg_int hty, Result.andThen_ok, Bool.false_eq_true, if_false, ho, hm, hn, Sem.run_pure, run_equalIn_int w d f.type .i64 .i64 m n hty, List.all_cons]
      have hce : cellEq xs[o]? ys[o]? = decide (m = n) := by rw [hm, hn]; rfl
      rw [hm, hn] at hce
      rw [hce]
      by_cases hab : m = n
      · simp [hab, ih]
      · simp [hab]
    · simp only at hb; subst hb
      obtain ⟨m, hm⟩ := hx
      obtain ⟨n, hn⟩ := hy
      simp only at hm hn
      simp only [Op.eqFields, hne, ne_eq, not_false_eq_true, if_true, Sem.run_bind, part, isAgg_str hty, Result.andThen_ok, Bool.false_eq_true, if_false, ho, hm, hn, Sem.run_pure, run_equalIn_string w d f.type m n hty, List.all_cons, str_eq]
      have hce : cellEq xs[o]? ys[o]? = decide (m = n) := by rw [hm, hn]; rfl
      rw [hm, hn] at hce
      rw [hce]
      by_cases hab : m = n
      · simp [hab, ih]
      · simp [hab]
theorem xR_neqF {K : Value → Prop} {c : Bool} {xs ys : Array Value} {sig : List (Nat × Bool)} (h : flatB P T sig) (hc : ∀ s ∈ sig, CellOK xs s ∧ CellOK ys s) :
    xR P (sEq .neq T c (.agg xs) (.agg ys)) w K ↔ K (.bool (!(sig.all fun s => cellEq xs[s.1]? ys[s.1]?))) :=
  xR_of (by
    obtain ⟨h1, h2, h3, h4⟩ := h
    rw [run_sEq_agg h3, run_neq_struct, run_equalIn_struct w 9999 T xs ys h1 h2, eqFields_flat 9998 _ _ h4 hc]; rfl)
theorem xR_eqlF {K : Value → Prop} {c : Bool} {xs ys : Array Value} {sig : List (Nat × Bool)} (h : flatB P T sig) (hc : ∀ s ∈ sig, CellOK xs s ∧ CellOK ys s) :
    xR P (sEq .eql T c (.agg xs) (.agg ys)) w K ↔ K (.bool (sig.all fun s => cellEq xs[s.1]? ys[s.1]?)) :=
  xR_of (by
    obtain ⟨h1, h2, h3, h4⟩ := h
    rw [run_sEq_agg h3, run_eql_struct, run_equalIn_struct w 9999 T xs ys h1 h2, eqFields_flat 9998 _ _ h4 hc]; rfl)
end
end Go.X
