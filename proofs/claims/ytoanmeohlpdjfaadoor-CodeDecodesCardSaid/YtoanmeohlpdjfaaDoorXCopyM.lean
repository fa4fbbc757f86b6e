import Derived.Test.YtoanmeohlpdjfaaDoorXRows
namespace Go.X
set_option linter.unusedSimpArgs false
set_option linter.unusedVariables false
open Go Go.RowKit

/-! ## copy(d, s) into a row of one's own: as many as fit -/
def over (d s : List UInt8) : List UInt8 := s.take d.length ++ d.drop (s.take d.length).length
theorem over_len (d s : List UInt8) : (over d s).length = d.length := by
  unfold over
  rw [List.length_append, List.length_drop, List.length_take]
  omega
theorem xE_copyM {P : Program} {D S E : TypeId} {w : World} {K : Value → World → Prop} {v sv : Value} {d l : List UInt8} {F : List Nat} (hD : sliceB P D E = true) (hE : sizeB P E 1 = true) (hv : Own w E 1 v d.length (d.flatMap encB) F) (hd : 0 < d.length) (hs : SlT w encB sv l)
    (k : ∀ w' n, SlT w' encB v (over d l) → Kept F w w' → w'.heap.size = w.heap.size → K (.int .i64 n) w') : xE P (sB .copy #[D, S] #[v, sv]) w K := by
  have hu := sliceB_spec hD
  obtain ⟨i, hi, hsz⟩ := sizeB_spec hE
  have hinfo : (P.info? E).map (·.size) = some 1 := by rw [hi]; simp [hsz]
  rcases hv.2 with ⟨_, h0, _⟩ | ⟨b, o, cap, cur, rfl, rfl, hb, hn, hm, hfit, ht⟩
  · omega
  obtain ⟨a, sc, rfl, hsc, hrow⟩ := hs
  simp only [Nat.mul_one] at hfit ht
  by_cases h0 : l = []
  · subst h0
    refine (xE_of (v := .int .i64 0) (w' := w) ?_).2 ?_
    · show (do pure (Next.value (← Builtin.copy_ #[D, S] 0 #[.slice (some ⟨b, o, none⟩) d.length cap, .slice a 0 sc])) : Sem Next).run P w = _
      exact run_sB P _ w (run_copy_none w D S 0 E _ a d.length cap 0 sc hu hinfo (by simp))
    · refine k w 0 ?_ (Kept.refl _ _) rfl
      have e : over d [] = d := by simp [over]
      rw [e]
      exact hv.slT encB_len (by omega)
  · obtain ⟨sb, so, rfl, hat⟩ := hrow.resolve_left h0
    have hcl : ((l.take d.length).flatMap encB).length = (l.take d.length).length := by rw [flat_len encB_len, Nat.mul_one]
    have hfl : ((l.take d.length).flatMap encB).length = Nat.min l.length d.length := by rw [hcl, List.length_take]; exact Nat.min_comm _ _
    have hpre : ∀ j u, ((l.take d.length).flatMap encB)[j]? = some u → (l.flatMap encB)[j]? = some u := fun j u hj => by
      have e : (l.take d.length).flatMap encB = (l.flatMap encB).take (d.length * 1) := (flat_take encB_len l d.length).symm
      rw [e, List.getElem?_take] at hj
      split at hj
      · exact hj
      · cases hj
    have hsrc : ∀ j u, ((l.take d.length).flatMap encB)[j]? = some u → w.cell? ((⟨sb, so, none⟩ : Addr).add j) = some u := fun j u hj => by
      have := hpre j u hj
      rw [add_none, hat j (List.getElem?_eq_some_iff.1 this).1, this]
    have hone : ∀ u ∈ (l.take d.length).flatMap encB, u.oneCell' = true := fun u hu => by
      obtain ⟨x, _, hx⟩ := List.mem_flatMap.1 hu
      exact encB_one8 x u hx
    have hmle : ((l.take d.length).flatMap encB).length ≤ d.length := by rw [hfl]; exact Nat.min_le_right _ _
    have hover : (over d l).flatMap encB = (l.take d.length).flatMap encB ++ (d.flatMap encB).drop ((l.take d.length).flatMap encB).length := by
      unfold over
      rw [List.flatMap_append, hcl, ← flat_drop encB_len d (l.take d.length).length, Nat.mul_one]
    rw [← ht] at hover
    generalize (l.take d.length).flatMap encB = cs at *
    have hcell : ∀ j, j < cs.length → (w.cell? ⟨b, o + j, none⟩).isSome = true := fun j hj => by
      rw [hb.cell, List.getElem?_eq_getElem (by omega)]; rfl
    have hfz : ∀ j, j < cs.length → w.frozen? ⟨b, o + j, none⟩ = false := fun j _ => hb.frozen
    have hr := run_copy_cells (P := P) w D S 0 E b o d.length cap ⟨sb, so, none⟩ l.length sc cs hu hinfo hfl hsrc hcell hfz hone
    have hsplit : cur = cur.take o ++ (cur.drop o).take cs.length ++ cur.drop (o + cs.length) := by
      rw [← List.drop_drop, List.append_assoc, List.take_append_drop, List.take_append_drop]
    obtain ⟨w', hst, hb', hk', hz'⟩ := storeCells_run (P := P) b o E cs (cur.take o) ((cur.drop o).take cs.length) (cur.drop (o + cs.length)) w 0 (hsplit ▸ hb) (by rw [List.length_take, List.length_drop]; omega) hone (by rw [List.length_take]; omega)
    have hst2 := run_storeCells_cells (P := P) b o cs 0 w (by simpa using hcell) (by simpa using hfz) hone
    rw [hst2] at hst
    have hw : w.setCells b o cs = w' := by simpa using hst
    rw [hw] at hr
    refine (xE_of (v := .int .i64 (cs.length : Nat)) (w' := w') ?_).2 (k w' _ ?_ hk' hz')
    · show (do pure (Next.value (← Builtin.copy_ #[D, S] 0 #[.slice (some ⟨b, o, none⟩) d.length cap, .slice (some ⟨sb, so, none⟩) l.length sc])) : Sem Next).run P w = _
      exact run_sB P _ w hr
    · refine ⟨_, cap, by rw [over_len], by rw [over_len]; omega, .inr ⟨b, o, rfl, ?_⟩⟩
      have h1 := hb'.at.sub o d.length
      rw [Nat.zero_add] at h1
      have hto : (cur.take o).length = o := by rw [List.length_take]; omega
      have e : ((cur.take o ++ cs ++ cur.drop (o + cs.length)).drop o).take d.length = (over d l).flatMap encB := by
        rw [hover, List.append_assoc, List.drop_append_of_le_length (by omega), List.drop_of_length_le (by omega), List.nil_append, List.take_append, List.take_of_length_le hmle, List.drop_take, List.drop_drop]
      rwa [e] at h1
/-- s[1:] -/
theorem SlT.from1 {α : Type} {w : World} {enc : α → List Value} {sz : Nat} {a : Option Addr} {c : Nat} {l : List α} (hsz : ∀ x, (enc x).length = sz) (h : SlT w enc (.slice a l.length c) l) (hl : 1 ≤ l.length) : SlT w enc (.slice (if c = 1 then a else a.map (·.add (1 * sz))) (l.length - 1) (c - 1)) (l.drop 1) := by
  have := SlT.sub (i := 1) (j := l.length) hsz h hl (Nat.le_refl _)
  rwa [List.take_of_length_le (by rw [List.length_drop]; omega)] at this
end Go.X
