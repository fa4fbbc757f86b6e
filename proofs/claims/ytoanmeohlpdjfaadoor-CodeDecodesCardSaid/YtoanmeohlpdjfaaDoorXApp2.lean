import Derived.Test.YtoanmeohlpdjfaaDoorXRows
namespace Go.X
set_option linter.unusedSimpArgs false
set_option linter.unusedVariables false
open Go Go.RowKit Go.Great

/-! ## append, where the old row is still looked at -/
section
variable {P : Program} {w : World} {T E : TypeId} {sz bytes : Nat} {z : Value} {v : Value} {n : Nat} {xs : List Value} {F : List Nat}
/-- append of m elements to a row of one's own. -/
theorem append_own2 (he : ElemB P T E sz bytes z) (h : Own w E sz v n xs F) {b o m c : Nat} {news : List Value} (hx : At w b o news) (hl : news.length = m * sz) (h1 : ∀ u ∈ news, u.oneCell' = true)
    (hb : (n + m) * bytes ≤ 140737488355328) (h63 : n + m ≤ maxLen) (hm : 0 < m) :
    ∃ v' w' F', (Builtin.append_ #[T, T] 0 #[v, .slice (some ⟨b, o, none⟩) m c]).run P w = .ok v' w' ∧ Own w' E sz v' (n + m) (xs ++ news) F' ∧ Kept F w w' ∧ (∀ g ∈ F', g ∈ F ∨ (w.heap.size ≤ g ∧ w.heap.size < w'.heap.size)) ∧ Own w' E sz v n xs F := by
  obtain ⟨hu, i, hi, hz, hs, hby⟩ := he.info
  have hnews : ∀ j u, news[j]? = some u → w.cell? ((⟨b, o, none⟩ : Addr).add j) = some u := by
    intro j u hj
    rw [add_none, hx j (List.getElem?_eq_some_iff.1 hj).1, hj]
  have hsmall : ((n + m : Nat) : Int) ≤ 9223372036854775807 := by simp only [maxLen] at h63; omega
  have hlen : (xs ++ news).length = (n + m) * sz := by rw [List.length_append, h.1, hl, Nat.add_mul]
  have grown : ∀ (old : Nat), Own (w.drew.alloc (.cells (xs.toArray ++ news.toArray ++ Builtin.zeroCells z.cells (grownCap w (n + m) old E - (n + m))) E)) E sz
        (.slice (some ⟨w.heap.size, 0, none⟩) (n + m) (grownCap w (n + m) old E)) (n + m) (xs ++ news) [w.heap.size] ∧
      Kept F w (w.drew.alloc (.cells (xs.toArray ++ news.toArray ++ Builtin.zeroCells z.cells (grownCap w (n + m) old E - (n + m))) E)) := by
    intro old
    have hge := grownCap_ge w (n + m) old E
    have hcm : grownCap w (n + m) old E ≤ maxLen := grownCap_le_maxLen w (n + m) old E h63
    have hsz := size_zeroCells z.cells (grownCap w (n + m) old E - (n + m))
    rw [he.zs] at hsz
    refine ⟨⟨hlen, .inr ⟨w.heap.size, 0, _, xs ++ news ++ (Builtin.zeroCells z.cells (grownCap w (n + m) old E - (n + m))).toList, rfl, rfl, ?_, hge, hcm, ?_, ?_⟩⟩, (kept_drew F w).alloc _⟩
    · have : (xs.toArray ++ news.toArray ++ Builtin.zeroCells z.cells (grownCap w (n + m) old E - (n + m))) = (xs ++ news ++ (Builtin.zeroCells z.cells (grownCap w (n + m) old E - (n + m))).toList).toArray := by simp
      rw [this]
      exact blk_alloc w.drew E _
    · rw [List.length_append, hlen, Array.length_toList, hsz, Nat.sub_mul]
      have := Nat.mul_le_mul_right sz hge
      omega
    · rw [List.drop_zero, ← hlen]
      exact List.take_left
  rcases h.2 with ⟨rfl, rfl, rfl⟩ | ⟨g, o', cap, cur, rfl, rfl, hg, hnc, hcm, hcs, htake⟩
  · have hx0 : xs = [] := List.eq_nil_of_length_eq_zero (by simpa using h.1)
    subst hx0
    have hr := run_append_nil (P := P) w T 0 E i z hu hi hz ⟨b, o, none⟩ m c news (by rw [hl, hs]) hnews hm (by simpa using hsmall) (by rw [hby]; have := hb; simp only [Nat.zero_add] at this; omega)
    have hgr := grown 0
    simp only [Nat.zero_add] at hgr ⊢
    exact ⟨_, _, _, hr, by simpa using hgr.1, by simpa using hgr.2, fun g hg => .inr ⟨by simp at hg; omega, by simp⟩, own_nil _ _ _⟩
  · by_cases hroom : n + m ≤ cap
    · have hmul : (n + m) * sz ≤ cap * sz := Nat.mul_le_mul_right _ hroom
      have hxl := h.1
      have hsplit : cur = cur.take (o' + n * sz) ++ (cur.drop (o' + n * sz)).take (m * sz) ++ cur.drop (o' + (n + m) * sz) := by
        rw [Nat.add_mul, ← Nat.add_assoc, ← List.drop_drop (i := m * sz), List.append_assoc, List.take_append_drop, List.take_append_drop]
      have hll : ((cur.drop (o' + n * sz)).take (m * sz)).length = m * sz := by
        rw [List.length_take, List.length_drop]
        rw [Nat.add_mul] at hmul
        omega
      obtain ⟨w', hst, hb', hk', hsz'⟩ := storeCells_run (P := P) g (o' + n * sz) E news (cur.take (o' + n * sz)) ((cur.drop (o' + n * sz)).take (m * sz)) (cur.drop (o' + (n + m) * sz)) w 0 (hsplit ▸ hg) (by rw [hll, hl]) h1 (by rw [List.length_take]; rw [Nat.add_mul] at hmul; omega)
      have hf := run_firstCells_some (P := P) w i.size m ⟨b, o, none⟩ m c news (by rw [hl, hs]) hnews
      have hrun : (Builtin.append_ #[T, T] 0 #[.slice (some ⟨g, o', none⟩) n cap, .slice (some ⟨b, o, none⟩) m c]).run P w = .ok (.slice (some ⟨g, o', none⟩) (n + m) cap) w' := by
        rw [← hs] at hst
        simp [Builtin.append_, run_underlying hu, sizeOf, typeInfo, hi, Builtin.lenOf, hroom, hf, add_none, hst]
      have hc1 : (cur.take (o' + n * sz)).length = o' + n * sz := by rw [List.length_take]; rw [Nat.add_mul] at hmul; omega
      refine ⟨_, _, [g], hrun, ⟨hlen, .inr ⟨g, o', cap, _, rfl, rfl, hb', hroom, hcm, ?_, ?_⟩⟩, hk', fun g' hg' => .inl hg', ⟨h.1, .inr ⟨g, o', cap, _, rfl, rfl, hb', hnc, hcm, ?_, ?_⟩⟩⟩
      · rw [List.length_append, List.length_append, hc1, hl, List.length_drop]
        rw [Nat.add_mul] at hmul ⊢
        omega
      · rw [List.append_assoc, List.drop_append_of_le_length (by omega), List.drop_take, Nat.add_sub_cancel_left, htake, ← List.append_assoc, ← hlen]
        exact List.take_left
      · rw [List.length_append, List.length_append, hc1, hl, List.length_drop]
        rw [Nat.add_mul] at hmul ⊢
        omega
      · rw [List.append_assoc, List.drop_append_of_le_length (by omega), List.drop_take, Nat.add_sub_cancel_left, htake, ← hxl]
        exact List.take_left
    · have holds : ∀ j u, xs[j]? = some u → w.cell? ((⟨g, o', none⟩ : Addr).add j) = some u := by
        intro j u hj
        have hat := hg.at.sub o' (n * sz)
        rw [htake, Nat.zero_add] at hat
        rw [add_none, hat j (List.getElem?_eq_some_iff.1 hj).1, hj]
      have hr := run_append_grow (P := P) w T 0 E i z hu hi hz ⟨g, o', none⟩ n cap xs (by rw [h.1, hs]) holds ⟨b, o, none⟩ m c news (by rw [hl, hs]) hnews (by omega) hsmall
        (growslice_fits (by omega) (by rw [hby]; exact hb))
      have hgr := grown cap
      exact ⟨_, _, _, hr, hgr.1, hgr.2, fun g' hg' => .inr ⟨by simp at hg'; omega, by simp⟩, h.kept ((kept_drew [] w).alloc _) (by simp)⟩

theorem xE_append2 {K : Value → World → Prop} (he : ElemB P T E sz bytes z) (h : Own w E sz v n xs F) {b o m c : Nat} {news : List Value} (hx : At w b o news) (hl : news.length = m * sz) (h1 : ∀ u ∈ news, u.oneCell' = true)
    (hb : (n + m) * bytes ≤ 140737488355328) (h63 : n + m ≤ maxLen) (hm : 0 < m)
    (k : ∀ v' w' F', Own w' E sz v' (n + m) (xs ++ news) F' → Kept F w w' → (∀ g ∈ F', g ∈ F ∨ w.heap.size ≤ g) → v'.oneCell' = true → Own w' E sz v n xs F → K v' w') :
    xE P (sB .append #[T, T] #[v, .slice (some ⟨b, o, none⟩) m c]) w K := by
  obtain ⟨v', w', F', hr, ho, hk, hf, hold⟩ := append_own2 (P := P) he h hx hl h1 hb h63 hm
  refine (xE_of (v := v') (w' := w') ?_).2 (k v' w' F' ho hk (fun g hg => (hf g hg).imp id (·.1)) ?_ hold)
  · show (do pure (Next.value (← Builtin.append_ #[T, T] 0 #[v, .slice (some ⟨b, o, none⟩) m c])) : Sem Next).run P w = _
    exact run_sB P _ w hr
  · rcases ho.2 with ⟨rfl, _⟩ | ⟨_, _, _, _, rfl, _⟩ <;> rfl

end
end Go.X
