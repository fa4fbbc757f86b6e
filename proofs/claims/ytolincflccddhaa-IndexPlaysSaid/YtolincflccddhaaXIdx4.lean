import Derived.Test.YtolincflccddhaaXIdx3
namespace Go.Proofs.Ytolincflccddhaa
open Go Go.X

theorem sub_kept {M F F' : List Nat} {w w' : World} (_h : Kept M w w') (hf : ∀ g ∈ F', g ∈ F ∨ w.heap.size ≤ g) {B : Nat} (hB : ∀ g ∈ F, B ≤ g) (hw : B ≤ w.heap.size) : ∀ g ∈ F', B ≤ g :=
  fun g hg => (hf g hg).elim (hB g) (fun h => by omega)

theorem runs_ok {w : World} : Gives Try.prog 3 #[] w fun v w' => v = .bool true ∧ Kept [] w w' := by
  refine C_IndexRuns ?_
  unfold S_IndexRuns
  refine xE_call CF_8 (new_ok (by omega) (by omega)) ?_
  rintro _ w1 ⟨rfl, hx0, hk1, hz1⟩
  simp only [xR_pnil PT_22, xIf_false, Option.isNone_some]
  rw [show (max (2 : Int) 1).toNat = 2 from rfl] at hx0
  generalize hb : w.heap.size = b at *
  have hF0 : ∀ g ∈ [b], b ≤ g := by simp
  refine (xP_build (cells := (encH ⟨0, 3, 5, 0, 0⟩).toArray) (by kernel_rfl)).2 ?_
  refine xE_call CF_9 (add_ok (h := ⟨0, 3, 5, 0, 0⟩) hx0 (by simp)) ?_
  rintro _ w2 ⟨rfl, F1, hx1, hk2, hf1⟩
  have hF1 := sub_kept hk2 hf1 hF0 (by omega)
  have q2 : Kept [] w w2 := hk1.then hk2 (fun k hk => .inr (by rw [hb]; exact hF0 k hk))
  refine (xP_build (cells := (encH ⟨3, 2, 4, 0, 0⟩).toArray) (by kernel_rfl)).2 ?_
  refine xE_call CF_9 (add_ok (h := ⟨3, 2, 4, 0, 0⟩) hx1 (by simp)) ?_
  rintro _ w3 ⟨rfl, F2, hx2, hk3, hf2⟩
  have hF2 := sub_kept hk3 hf2 hF1 (by have := q2.size; omega)
  have q3 : Kept [] w w3 := q2.then hk3 (fun k hk => .inr (by rw [hb]; exact hF1 k hk))
  refine (xP_build (cells := (encH ⟨9, 1, 8, 0, 0⟩).toArray) (by kernel_rfl)).2 ?_
  refine xE_call CF_9 (add_ok (h := ⟨9, 1, 8, 0, 0⟩) hx2 (by simp)) ?_
  rintro _ w4 ⟨rfl, F3, hx3, hk4, hf3⟩
  have q4 : Kept [] w w4 := q3.then hk4 (fun k hk => .inr (by rw [hb]; exact hF2 k hk))
  simp only [List.nil_append, List.cons_append] at hx3
  generalize hl : ([⟨0, 3, 5, 0, 0⟩, ⟨3, 2, 4, 0, 0⟩, ⟨9, 1, 8, 0, 0⟩] : List Hd) = l at hx3
  have hs1 : Sorted l := by
    subst hl
    intro i j hi hj hij h1 h2
    match i, j, hij with
    | 0, 1, _ => simp at h1 h2; subst h1 h2; decide
    | 0, 2, _ => simp at h1 h2; subst h1 h2; decide
    | 1, 2, _ => simp at h1 h2; subst h1 h2; decide
    | _, j + 3, _ => simp at h2
    | 2, 2, h => omega
    | 1, 1, h => omega
    | 1, 0, h => omega
    | i, 0, h => omega
    | i + 3, _, h => simp at h1
  have hs2 : Ranged l := by
    subst hl
    intro h hm
    simp at hm
    rcases hm with rfl | rfl | rfl <;> decide
  have hll : l.length ≤ 1000000 := by subst hl; decide
  have sk : ∀ (o : Int) (m : Nat), 0 ≤ o → o ≤ 9223372036854775807 → l.findIdx (has o) = m → ∀ w', Kept [] w4 w' → Gives Try.prog 10 #[.pointer (some ⟨b, 0, none⟩), .int .i64 o] w' fun v w'' => v = .int .i64 (m : Nat) ∧ Kept [] w' w'' := by
    intro o m h0 h1 hm w' hk
    refine (seek_ok (hx3.kept hk (by simp)) hll hs1 hs2 (fun _ => ⟨h0, h1⟩)).mono (fun v w'' h => ?_)
    rw [hm] at h
    exact h
  have wh : ∀ (t : Int) (m : Nat), l.findIdx (fun h => decide (t ≤ h.time)) = m → ∀ w', Kept [] w4 w' → Gives Try.prog 11 #[.pointer (some ⟨b, 0, none⟩), .int .i64 t] w' fun v w'' => v = .int .i64 (m : Nat) ∧ Kept [] w' w'' := by
    intro t m hm w' hk
    refine (when_ok (hx3.kept hk (by simp)) (by omega)).mono (fun v w'' h => ?_)
    rw [hm] at h
    exact h
  refine xE_call CF_10 (sk 2 0 (by omega) (by omega) (by subst hl; decide) w4 (Kept.refl _ _)) ?_
  rintro _ w5 ⟨rfl, k5⟩
  refine xE_call CF_10 (sk 3 1 (by omega) (by omega) (by subst hl; decide) w5 k5) ?_
  rintro _ w6 ⟨rfl, k6⟩
  have k6 := k5.then k6 (by simp)
  refine xE_call CF_10 (sk 5 2 (by omega) (by omega) (by subst hl; decide) w6 k6) ?_
  rintro _ w7 ⟨rfl, k7⟩
  have k7 := k6.then k7 (by simp)
  refine xE_call CF_10 (sk 9 2 (by omega) (by omega) (by subst hl; decide) w7 k7) ?_
  rintro _ w8 ⟨rfl, k8⟩
  have k8 := k7.then k8 (by simp)
  refine xE_call CF_10 (sk 10 3 (by omega) (by omega) (by subst hl; decide) w8 k8) ?_
  rintro _ w9 ⟨rfl, k9⟩
  have k9 := k8.then k9 (by simp)
  refine xE_buildSlice EL_28 [.int .i64 (0 : Nat), .int .i64 (1 : Nat), .int .i64 (2 : Nat), .int .i64 (2 : Nat), .int .i64 (3 : Nat)] rfl rfl (by simp [Value.cells]) (by omega) (by omega) fun w10 hbA k10 _ => ?_
  have k10 := k9.then k10 (by simp)
  refine xE_call CF_11 (wh 5 0 (by subst hl; decide) w10 k10) ?_
  rintro _ w11 ⟨rfl, k11⟩
  have m11 := k11
  have k11 := k10.then k11 (by simp)
  refine xE_call CF_11 (wh 6 2 (by subst hl; decide) w11 k11) ?_
  rintro _ w12 ⟨rfl, k12⟩
  have m12 := m11.then k12 (by simp)
  have k12 := k11.then k12 (by simp)
  refine xE_call CF_11 (wh 9 3 (by subst hl; decide) w12 k12) ?_
  rintro _ w13 ⟨rfl, k13⟩
  have m13 := m12.then k13 (by simp)
  have k13 := k12.then k13 (by simp)
  refine xE_buildSlice EL_28 [.int .i64 (0 : Nat), .int .i64 (2 : Nat), .int .i64 (3 : Nat)] rfl rfl (by simp [Value.cells]) (by omega) (by omega) fun w14 hbB k14 _ => ?_
  refine xE_buildSlice EL_28 [.int .i64 0, .int .i64 1, .int .i64 2, .int .i64 2, .int .i64 3] rfl rfl (by simp [Value.cells]) (by omega) (by omega) fun w15 hbC k15 _ => ?_
  have slA : SlT w15 encI (.slice (some ⟨w9.heap.size, 0, none⟩) 5 5) [0, 1, 2, 2, 3] := ⟨_, 5, rfl, by simp, .inr ⟨_, _, rfl, ((hbA.kept (m13.then k14 (by simp)) (by simp)).kept k15 (by simp)).at⟩⟩
  have slC : SlT w15 encI (.slice (some ⟨w14.heap.size, 0, none⟩) 5 5) [0, 1, 2, 2, 3] := ⟨_, 5, rfl, by simp, .inr ⟨_, _, rfl, hbC.at⟩⟩
  refine xE_call CF_12 (same_ok slA slC (by simp)) ?_
  rintro _ w16 ⟨rfl, k16⟩
  simp only [decide_true, xIf_true]
  refine xE_buildSlice EL_28 [.int .i64 0, .int .i64 2, .int .i64 3] rfl rfl (by simp [Value.cells]) (by omega) (by omega) fun w17 hbD k17 _ => ?_
  have slB : SlT w17 encI (.slice (some ⟨w13.heap.size, 0, none⟩) 3 3) [0, 2, 3] := ⟨_, 3, rfl, by simp, .inr ⟨_, _, rfl, (((hbB.kept k15 (by simp)).kept k16 (by simp)).kept k17 (by simp)).at⟩⟩
  have slD : SlT w17 encI (.slice (some ⟨w16.heap.size, 0, none⟩) 3 3) [0, 2, 3] := ⟨_, 3, rfl, by simp, .inr ⟨_, _, rfl, hbD.at⟩⟩
  refine xE_call CF_12 (same_ok slB slD (by simp)) ?_
  rintro _ w18 ⟨rfl, k18⟩
  simp only [decide_true]
  exact ⟨rfl, ((((((q4.then k13 (by simp)).then k14 (by simp)).then k15 (by simp)).then k16 (by simp)).then k17 (by simp)).then k18 (by simp))⟩
end Go.Proofs.Ytolincflccddhaa
