import Derived.Test.YtoanmeohlpdjfaaDoorXcCode6
namespace Go.Proofs.YtoanmeohlpdjfaaDoor
set_option linter.unusedSimpArgs false
set_option linter.unusedVariables false
set_option maxRecDepth 100000
attribute [local irreducible] Go.X.xE
open Go Go.X Go.RowKit

/-! ## The blocks of k fragments -/
def Bl (rs : List Rq) (G : List Nat) : List Nat := G ++ rs.flatMap Rq.F
theorem Out.bl_lt {LE E : TypeId} {w0 w : World} {v : Value} {rs : List Rq} {G : List Nat} (h : Out LE E w0 w v rs G) : ∀ g ∈ Bl rs G, g < w.heap.size := by
  intro g hg
  rcases List.mem_append.1 hg with hg | hg
  · exact h.own.lt g hg
  · obtain ⟨r, hr, hgr⟩ := List.mem_flatMap.1 hg
    exact (h.ok r hr).lt g hgr
theorem Out.keptB {LE E : TypeId} {w0 w w' : World} {v : Value} {rs : List Rq} {G M : List Nat} (h : Out LE E w0 w v rs G) (hk : Kept M w w') (hd : ∀ g ∈ Bl rs G, g ∉ M) : Out LE E w0 w' v rs G :=
  h.kept hk (fun g hg => hd g (List.mem_append_left _ hg)) (fun r hr g hg => hd g (List.mem_append_right _ (List.mem_flatMap.2 ⟨r, hr, hg⟩)))
def dRq : Rq := ⟨.slice none 0 0, [], []⟩
theorem map_rangeD {α β : Type} (f : α → β) (d : α) (l : List α) : l.map f = (List.range l.length).map fun i => f (l.getD i d) := by
  apply List.ext_getElem?
  intro i
  by_cases hi : i < l.length
  · rw [range_get hi, List.getElem?_map, List.getElem?_eq_getElem hi, getD_lt hi]
    rfl
  · rw [List.getElem?_eq_none (by simp; omega), List.getElem?_eq_none (by simp; omega)]
theorem nd_apart : ∀ {rs : List Rq}, (rs.flatMap Rq.F).Nodup → ∀ i j, i < rs.length → j < rs.length → i ≠ j → ∀ g ∈ (rs.getD i dRq).F, g ∉ (rs.getD j dRq).F
  | [], _, i, j, hi, _, _ => by simp at hi
  | r :: rs, hn, i, j, hi, hj, hij => by
    rw [List.flatMap_cons] at hn
    obtain ⟨h1, h2, h3⟩ := List.nodup_append.1 hn
    have hmem : ∀ t, t < rs.length → ∀ g ∈ (rs.getD t dRq).F, g ∈ rs.flatMap Rq.F := fun t ht g hg => List.mem_flatMap.2 ⟨_, by rw [getD_lt ht] at hg; exact List.getElem_mem ht, by rw [getD_lt ht] at hg; exact hg⟩
    simp only [List.length_cons] at hi hj
    cases i with
    | zero =>
      cases j with
      | zero => exact absurd rfl hij
      | succ j =>
        intro g hg hm
        exact h3 g hg g (hmem j (by omega) g hm) rfl
    | succ i =>
      cases j with
      | zero =>
        intro g hg hm
        exact h3 g hm g (hmem i (by omega) g hg) rfl
      | succ j => exact nd_apart h2 i j (by omega) (by omega) (by omega)
theorem St.of {w0 w : World} {vm vo : Value} {rm ro : List Rq} {G1 G2 : List Nat} {K : Nat} (h1 : Out 32 5 w0 w vm rm G1) (h2 : Out 32 5 w0 w vo ro G2) (hd : ∀ g ∈ Bl rm G1, g ∉ Bl ro G2) (hl1 : rm.length = K) (hl2 : ro.length = K) (hK : 0 < K) :
    ∃ g1 g2, St w0 w vm vo K (fun i => (rm.getD i dRq, ro.getD i dRq)) g1 g2 := by
  have o1 := h1.own
  have o2 := h2.own
  obtain ⟨g1, _, _, _, rfl⟩ := o1.ex (by omega)
  obtain ⟨g2, _, _, _, rfl⟩ := o2.ex (by omega)
  rw [map_rangeD Rq.v dRq, hl1] at o1
  rw [map_rangeD Rq.v dRq, hl2] at o2
  have m1 : ∀ i, i < K → rm.getD i dRq ∈ rm := fun i hi => by rw [getD_lt (by omega)]; exact List.getElem_mem _
  have m2 : ∀ i, i < K → ro.getD i dRq ∈ ro := fun i hi => by rw [getD_lt (by omega)]; exact List.getElem_mem _
  have b1 : ∀ i, i < K → ∀ g ∈ (rm.getD i dRq).F, g ∈ Bl rm [g1] := fun i hi g hg => List.mem_append_right _ (List.mem_flatMap.2 ⟨_, m1 i hi, hg⟩)
  have b2 : ∀ i, i < K → ∀ g ∈ (ro.getD i dRq).F, g ∈ Bl ro [g2] := fun i hi g hg => List.mem_append_right _ (List.mem_flatMap.2 ⟨_, m2 i hi, hg⟩)
  have c1 : g1 ∈ Bl rm [g1] := List.mem_append_left _ (by simp)
  have c2 : g2 ∈ Bl ro [g2] := List.mem_append_left _ (by simp)
  exact ⟨g1, g2, ⟨o1, o2, fun i hi => h1.ok _ (m1 i hi), fun i hi => h2.ok _ (m2 i hi), fun e => hd g1 c1 (e ▸ c2), h1.fresh g1 (by simp), h2.fresh g2 (by simp),
    fun i hi g hg => ⟨(h1.rf _ (m1 i hi) g hg).1, fun e => (h1.rf _ (m1 i hi) g hg).2 (by simp [e]), fun e => hd g (b1 i hi g hg) (e ▸ c2)⟩,
    fun i hi g hg => ⟨(h2.rf _ (m2 i hi) g hg).1, fun e => hd g1 c1 (e ▸ b2 i hi g hg), fun e => (h2.rf _ (m2 i hi) g hg).2 (by simp [e])⟩,
    fun i hi j hj g hg hm => hd g (b1 i hi g hg) (b2 j hj g hm), fun i hi j hj hij => nd_apart h1.nd i j (by omega) (by omega) hij, fun i hi j hj hij => nd_apart h2.nd i j (by omega) (by omega) hij⟩⟩
def dPt : Pt := ⟨0, .slice none 0 0, []⟩
/-- The rows that the parts are made of, and what they have. -/
def ptR (k : Nat) (l : List Pt) : Nat → Rpr := fun t => (crow k (l.getD t dPt).at_.toNat, (l.getD t dPt).d)
theorem St.gone {w0 w : World} {vm vo : Value} {K g1 g2 : Nat} {q : Nat → Qp} (h : St w0 w vm vo K q g1 g2) : RowsT w vo ((List.range K).map fun i => (q i).2.x) := by
  refine ⟨(List.range K).map fun i => ((q i).2.v, (q i).2.x), ?_, fun r hr => ?_, by rw [List.map_map]; rfl⟩
  · have := h.own2
    have e : ((List.range K).map fun i => (q i).2.v) = ((List.range K).map fun i => ((q i).2.v, (q i).2.x)).flatMap encW := by
      generalize List.range K = l
      induction l with
      | nil => rfl
      | cons a l ih => rw [List.map_cons, List.map_cons, List.flatMap_cons, ← ih]; rfl
    rw [e] at this
    exact Own.slT (sz := 1) (l := (List.range K).map fun i => ((q i).2.v, (q i).2.x)) (enc := encW) (by rw [List.length_map, List.length_range]; exact this) (fun _ => rfl) (by omega)
  · obtain ⟨i, hi, rfl⟩ := List.mem_map.1 hr
    exact (h.ok2 i (List.mem_range.1 hi)).slT
end Go.Proofs.YtoanmeohlpdjfaaDoor
