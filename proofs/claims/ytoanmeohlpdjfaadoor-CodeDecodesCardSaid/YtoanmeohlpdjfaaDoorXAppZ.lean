import Derived.Test.YtoanmeohlpdjfaaDoorXApp2
namespace Go.X
set_option linter.unusedSimpArgs false
set_option linter.unusedVariables false
open Go Go.RowKit Go.Great

/-! ## append of noughts: append(l, make([]T, m)...) -/
theorem zeroCells_one (z0 : Value) (m : Nat) : Builtin.zeroCells #[z0] m = (List.replicate m z0).toArray := by
  apply Array.ext
  · simp [Builtin.zeroCells]
  · intro i h1 h2
    simp [Builtin.zeroCells, Nat.mod_one]
section
variable {P : Program} {w : World} {T I E : TypeId} {bytes : Nat} {z z0 : Value} {v : Value} {n : Nat} {xs : List Value} {F : List Nat}
theorem xE_appendZ {K : Value → World → Prop} {kn : IntKind} (he : ElemB P T E 1 bytes z) (hz0 : z.cells = #[z0]) (h10 : z0.oneCell' = true) (hI : P.underlying I = some (.int kn)) (h : Own w E 1 v n xs F) {m : Nat} (hm : 0 < m) (hm2 : m ≤ 1000000) (hn2 : n ≤ 1000000) (hby : bytes ≤ 1000)
    (k : ∀ v' w' F', Own w' E 1 v' (n + m) (xs ++ List.replicate m z0) F' → Kept F w w' → (∀ g ∈ F', g ∈ F ∨ w.heap.size ≤ g) → v'.oneCell' = true → K v' w') :
    xE P (sB .append #[T, I] #[v, .int .i64 m]) w K := by
  obtain ⟨hu, i, hi, hz, hs, hb⟩ := he.info
  have hmb : (n + m) * bytes ≤ 2000000 * 1000 := Nat.mul_le_mul (by omega) hby
  have hmb2 : m * bytes ≤ 1000000 * 1000 := Nat.mul_le_mul hm2 hby
  have hw : IntKind.i64.wrap (m : Int) = m := wrap64 (by omega) (by omega)
  have h48i : ¬ (281474976710656 < (m : Int) * (i.bytes : Int)) := by rw [← Int.natCast_mul, hb]; omega
  have hneg : ¬ ((m : Int) < 0) := by omega
  have hm0 : m ≠ 0 := by omega
  have h63 : n + m ≤ maxLen := by unfold maxLen; omega
  have hnl : (List.replicate m z0).length = m := List.length_replicate
  have hlen : (xs ++ List.replicate m z0).length = (n + m) * 1 := by rw [List.length_append, h.1, hnl]; omega
  have key : ∃ v' w' F', (Builtin.append_ #[T, I] 0 #[v, .int .i64 m]).run P w = .ok v' w' ∧ Own w' E 1 v' (n + m) (xs ++ List.replicate m z0) F' ∧ Kept F w w' ∧ (∀ g ∈ F', g ∈ F ∨ w.heap.size ≤ g) := by
    have grown : ∀ (old : Nat), Own (w.drew.alloc (.cells (xs.toArray ++ (List.replicate m z0).toArray ++ Builtin.zeroCells z.cells (grownCap w (n + m) old E - (n + m))) E)) E 1
          (.slice (some ⟨w.heap.size, 0, none⟩) (n + m) (grownCap w (n + m) old E)) (n + m) (xs ++ List.replicate m z0) [w.heap.size] ∧
        Kept F w (w.drew.alloc (.cells (xs.toArray ++ (List.replicate m z0).toArray ++ Builtin.zeroCells z.cells (grownCap w (n + m) old E - (n + m))) E)) := by
      intro old
      have hge := grownCap_ge w (n + m) old E
      have hcm : grownCap w (n + m) old E ≤ maxLen := grownCap_le_maxLen w (n + m) old E h63
      have hsz := size_zeroCells z.cells (grownCap w (n + m) old E - (n + m))
      rw [he.zs] at hsz
      refine ⟨⟨hlen, .inr ⟨w.heap.size, 0, _, xs ++ List.replicate m z0 ++ (Builtin.zeroCells z.cells (grownCap w (n + m) old E - (n + m))).toList, rfl, rfl, ?_, hge, hcm, ?_, ?_⟩⟩, (kept_drew F w).alloc _⟩
      · have : (xs.toArray ++ (List.replicate m z0).toArray ++ Builtin.zeroCells z.cells (grownCap w (n + m) old E - (n + m))) = (xs ++ List.replicate m z0 ++ (Builtin.zeroCells z.cells (grownCap w (n + m) old E - (n + m))).toList).toArray := by simp
        rw [this]
        exact blk_alloc w.drew E _
      · rw [List.length_append, hlen, Array.length_toList, hsz]
        omega
      · rw [List.drop_zero, ← hlen]
        exact List.take_left
    rcases h.2 with ⟨rfl, rfl, rfl⟩ | ⟨g, o', cap, cur, rfl, rfl, hg, hnc, hcm, hcs, htake⟩
    · have hx0 : xs = [] := List.eq_nil_of_length_eq_zero (by simpa using h.1)
      subst hx0
      have hnr : ¬ (0 + m ≤ 0) := by omega
      have hbig : ¬ ((9223372036854775807 : Int) < ((0 + m : Nat) : Int)) := by omega
      have hfit : Builtin.nextslicecap (0 + m) 0 * i.bytes ≤ 281474976710656 := growslice_fits (by omega) (by rw [hb]; omega)
      have hfit' : ¬ (281474976710656 < Builtin.nextslicecap (0 + m) 0 * i.bytes) := by omega
      have hr : (Builtin.append_ #[T, I] 0 #[.slice none 0 0, .int .i64 m]).run P w = .ok (.slice (some ⟨w.heap.size, 0, none⟩) (0 + m) (grownCap w (0 + m) 0 E)) (w.drew.alloc (.cells (([] : List Value).toArray ++ (List.replicate m z0).toArray ++ Builtin.zeroCells z.cells (grownCap w (0 + m) 0 E - (0 + m))) E)) := by
        rw [Nat.zero_add] at hfit' ⊢
        simp [Builtin.append_, run_underlying hu, run_underlying hI, asInt, asIntOf, hw, h48i, hneg, sizeOf, typeInfo, zeroValue, hi, hz, hs, hm0, hfit', Question.forced, newRow, grownCap, hz0, zeroCells_one, Builtin.firstCells]
        try omega
      have hgr := grown 0
      exact ⟨_, _, _, hr, hgr.1, hgr.2, fun g hg => .inr (by simp at hg; omega)⟩
    · by_cases hroom : n + m ≤ cap
      · have hxl := h.1
        have hsplit : cur = cur.take (o' + n) ++ (cur.drop (o' + n)).take m ++ cur.drop (o' + (n + m)) := by
          rw [← Nat.add_assoc, ← List.drop_drop (i := m), List.append_assoc, List.take_append_drop, List.take_append_drop]
        have hll : ((cur.drop (o' + n)).take m).length = m := by
          rw [List.length_take, List.length_drop]
          omega
        obtain ⟨w', hst, hb', hk', hsz'⟩ := storeCells_run (P := P) g (o' + n) E (List.replicate m z0) (cur.take (o' + n)) ((cur.drop (o' + n)).take m) (cur.drop (o' + (n + m))) w 0 (hsplit ▸ hg) (by rw [hll, hnl]) (by intro u hu; rw [List.eq_of_mem_replicate hu]; exact h10) (by rw [List.length_take]; omega)
        have hrun : (Builtin.append_ #[T, I] 0 #[.slice (some ⟨g, o', none⟩) n cap, .int .i64 m]).run P w = .ok (.slice (some ⟨g, o', none⟩) (n + m) cap) w' := by
          simp [Builtin.append_, run_underlying hu, run_underlying hI, asInt, asIntOf, hw, h48i, hneg, sizeOf, typeInfo, zeroValue, hi, hz, hs, hm0, hroom, hz0, zeroCells_one, add_none, hst]
        have hc1 : (cur.take (o' + n)).length = o' + n := by rw [List.length_take]; omega
        refine ⟨_, _, [g], hrun, ⟨hlen, .inr ⟨g, o', cap, _, rfl, rfl, hb', hroom, hcm, ?_, ?_⟩⟩, hk', fun g' hg' => .inl hg'⟩
        · rw [List.length_append, List.length_append, hc1, hnl, List.length_drop]
          omega
        · rw [Nat.mul_one] at htake
          rw [List.append_assoc, List.drop_append_of_le_length (by omega), List.drop_take, Nat.add_sub_cancel_left, htake, ← List.append_assoc, ← hlen]
          exact List.take_left
      · have holds : ∀ j u, xs[j]? = some u → w.drew.cell? ((⟨g, o', none⟩ : Addr).add j) = some u := by
          intro j u hj
          have hat := hg.at.sub o' (n * 1)
          rw [htake, Nat.zero_add] at hat
          have := hat j (List.getElem?_eq_some_iff.1 hj).1
          rw [add_none, World.cell?_drew, this, hj]
        have hfo := run_firstCells_some (P := P) w.drew i.size n ⟨g, o', none⟩ n cap xs (by rw [h.1, hs]) holds
        rw [hs] at hfo
        have hbig : ¬ ((9223372036854775807 : Int) < (n : Int) + (m : Int)) := by omega
        have hfit : Builtin.nextslicecap (n + m) cap * i.bytes ≤ 281474976710656 := growslice_fits (by omega) (by rw [hb]; omega)
        have hfit' : ¬ (281474976710656 < Builtin.nextslicecap (n + m) cap * i.bytes) := by omega
        have hr : (Builtin.append_ #[T, I] 0 #[.slice (some ⟨g, o', none⟩) n cap, .int .i64 m]).run P w = .ok (.slice (some ⟨w.heap.size, 0, none⟩) (n + m) (grownCap w (n + m) cap E)) (w.drew.alloc (.cells (xs.toArray ++ (List.replicate m z0).toArray ++ Builtin.zeroCells z.cells (grownCap w (n + m) cap E - (n + m))) E)) := by
          simp [Builtin.append_, run_underlying hu, run_underlying hI, asInt, asIntOf, hw, h48i, hneg, sizeOf, typeInfo, zeroValue, hi, hz, hs, hm0, hroom, hbig, hfit', Question.forced, hfo, newRow, grownCap, hz0, zeroCells_one]
        have hgr := grown cap
        exact ⟨_, _, _, hr, hgr.1, hgr.2, fun g' hg' => .inr (by simp at hg'; omega)⟩
  obtain ⟨v', w', F', hr, ho, hk, hf⟩ := key
  refine (xE_of (v := v') (w' := w') ?_).2 (k v' w' F' ho hk hf ?_)
  · show (do pure (Next.value (← Builtin.append_ #[T, I] 0 #[v, .int .i64 m])) : Sem Next).run P w = _
    exact run_sB P _ w hr
  · rcases ho.2 with ⟨rfl, _⟩ | ⟨_, _, _, _, rfl, _⟩ <;> rfl
end
end Go.X
