import Derived.Test.YtclojjiiiejfpaaDoorXgBatch5
namespace Go.Proofs.YtclojjiiiejfpaaDoor
set_option linter.unusedSimpArgs false
set_option linter.unusedVariables false
set_option maxRecDepth 100000
attribute [local irreducible] Go.X.xE
open Go Go.X Go.RowKit

/-! ## BatchBack -/
theorem bback_ok {b1 b2 : Bt} {x1 x2 : Value} {n : Int} {c : UInt8} {w : World} (hgl : Glob w) (h1 : SlT w encS x1 b1.v) (h2 : SlT w encS x2 b2.v) :
    Gives Tryd.prog 13 #[vBt b1 x1, vBt b2 x2, .int .i64 n, .int .u8 c.toNat] w fun u w' => u = .bool true ∧ Kept [] w w' := by
  refine C_stavelaw15_BatchBack ?_
  unfold S_stavelaw15_BatchBack
  refine xE_box fun w1 hB1 hk1 hz1 => ?_
  refine xE_box fun w2 hB2 hk2 hz2 => ?_
  have hk02 := hk1.then hk2 (by simp)
  have hBx1 : Blk w2 w.heap.size 63 (encBt b1 x1) := Blk.kept hB1 hk2 (by simp)
  have hBx2 : Blk w2 w1.heap.size 63 (encBt b2 x2) := hB2
  have hd := kept_drew [] w2
  generalize w.heap.size = V1 at hBx1 ⊢
  generalize w1.heap.size = V2 at hBx2 ⊢
  have hl1 := fewB_len b1
  have hl2 := fewB_len b2
  refine xJoin_of (fun vs w' => ∃ (p q : Nat) (y1 y2 : Value), vs = [.pointer (some ⟨p, 0, none⟩), .pointer (some ⟨q, 0, none⟩)] ∧ Blk w' p 63 (encBt (fewB b1) y1) ∧ Blk w' q 63 (encBt (fewB b2) y2) ∧ SlT w' encS y1 (fewB b1).v ∧ SlT w' encS y2 (fewB b2).v ∧ Kept [] w w') ?_ ?_
  · obtain ⟨A0, A1, A2, A3, A4⟩ := ldBt (hBx1.kept hd (by simp))
    obtain ⟨D0, D1, D2, D3, D4⟩ := ldBt (hBx2.kept hd (by simp))
    refine (A4 _).2 ?_
    refine (D4 _).2 ?_
    -- the steps, in whatever order
    have C1 : ∀ (w' : World) (K : Value → World → Prop), Kept [] w2 w' → (∀ y w'', SlT w'' encS y (fewB b1).v → Fr w'.heap.size y → Lt w''.heap.size y → Kept [] w' w'' → K (vBt (fewB b1) y) w'') → xE Tryd.prog (sCall 34 #[vBt b1 x1]) w' K := fun w' K hk hK =>
      few4S (h1.kept0 (hk02.then hk (by simp))) fun y w'' a1 a2 a3 a4 => hK y w'' a1 a3 a4 a2
    have C2 : ∀ (w' : World) (K : Value → World → Prop), Kept [] w2 w' → (∀ y w'', SlT w'' encS y (fewB b2).v → Fr w'.heap.size y → Lt w''.heap.size y → Kept [] w' w'' → K (vBt (fewB b2) y) w'') → xE Tryd.prog (sCall 34 #[vBt b2 x2]) w' K := fun w' K hk hK =>
      few4S (h2.kept0 (hk02.then hk (by simp))) fun y w'' a1 a2 a3 a4 => hK y w'' a1 a3 a4 a2
    have Al : ∀ (w' : World) (K : Value → World → Prop), (∀ w'', Blk w'' w'.heap.size 63 (encBt bt0 (.slice none 0 0)) → Kept [] w' w'' → w''.heap.size = w'.heap.size + 1 → K (.pointer (some ⟨w'.heap.size, 0, none⟩)) w'') → xE Tryd.prog (sAlloc 63) w' K := fun w' K hK => xE_alloc Z_63 hK
    have T1 : ∀ (w' : World) (B : Prop), Kept [] w2 w' → B → xStill Tryd.prog (sLoad 63 (.pointer (some ⟨V1, 0, none⟩))) (vBt b1 x1) w' B := fun w' B hk hB => (stBt (hBx1.kept hk (by simp))).2 hB
    have T2 : ∀ (w' : World) (B : Prop), Kept [] w2 w' → B → xStill Tryd.prog (sLoad 63 (.pointer (some ⟨V2, 0, none⟩))) (vBt b2 x2) w' B := fun w' B hk hB => (stBt (hBx2.kept hk (by simp))).2 hB
    have fin : ∀ (p q : Nat) (y1 y2 : Value) (w' : World), Kept [] w2 w' → Blk w' p 63 (encBt bt0 (.slice none 0 0)) → Blk w' q 63 (encBt bt0 (.slice none 0 0)) → p ≠ q → w.heap.size ≤ p → w.heap.size ≤ q → SlT w' encS y1 (fewB b1).v → SlT w' encS y2 (fewB b2).v →
        (∀ b o m cc, (y1 = .slice (some ⟨b, o, none⟩) m cc ∨ y2 = .slice (some ⟨b, o, none⟩) m cc) → b ≠ p ∧ b ≠ q) →
        xE Tryd.prog (sStore 63 (.pointer (some ⟨p, 0, none⟩)) (vBt (fewB b1) y1)) w' fun _ w16 => xE Tryd.prog (sStore 63 (.pointer (some ⟨q, 0, none⟩)) (vBt (fewB b2) y2)) w16 fun _ w17 =>
          (fun (vs : List Value) w' => ∃ (p q : Nat) (y1 y2 : Value), vs = [.pointer (some ⟨p, 0, none⟩), .pointer (some ⟨q, 0, none⟩)] ∧ Blk w' p 63 (encBt (fewB b1) y1) ∧ Blk w' q 63 (encBt (fewB b2) y2) ∧ SlT w' encS y1 (fewB b1).v ∧ SlT w' encS y2 (fewB b2).v ∧ Kept [] w w') [.pointer (some ⟨p, 0, none⟩), .pointer (some ⟨q, 0, none⟩)] w17 := by
      intro p q y1 y2 w' hk hp hq hpq hwp hwq i1 i2 off
      refine xE_storeN (l1 := []) (l2 := encBt bt0 (.slice none 0 0)) (l3 := []) SZ_63 hp rfl rfl rfl (encBt_one i1.one) fun w3 hb3 hk3 hz3 => ?_
      refine xE_storeN (l1 := []) (l2 := encBt bt0 (.slice none 0 0)) (l3 := []) SZ_63 (hq.kept hk3 (by simp; exact fun h => hpq h.symm)) rfl rfl rfl (encBt_one i2.one) fun w4 hb4 hk4 hz4 => ?_
      have hk34 : Kept [p, q] w' w4 := (hk3.mono (by simp)).then hk4 (by simp)
      refine ⟨p, q, y1, y2, rfl, ?_, by simpa [vBt, Value.cells] using hb4, ?_, ?_, (hk02.then hk (by simp)).then hk34 (by intro k hk; simp at hk; rcases hk with rfl | rfl <;> omega)⟩
      · have : Blk w3 p 63 (encBt (fewB b1) y1) := by simpa [vBt, Value.cells] using hb3
        exact this.kept hk4 (by simp; exact hpq)
      · exact i1.kept hk34 (fun b o m cc he hm => by have := off b o m cc (.inl he); simp at hm; omega)
      · exact i2.kept hk34 (fun b o m cc he hm => by have := off b o m cc (.inr he); simp at hm; omega)
    have e0 := hk02.size
    have e00 : w2.drew.heap.size = w2.heap.size := rfl
    refine ⟨?_, ?_, ?_⟩
    · skip
      refine C1 _ _ hd fun y1 z1 i1 f1 g1 j1 => ?_
      have e1 := j1.size
      have kz1 := hd.then j1 (by simp)
      refine T2 _ _ kz1 ?_
      refine ⟨?_, ?_, ?_⟩
      · skip
        refine C2 z1 _ kz1 fun y2 z2 i2 f2 g2 j2 => ?_
        have e2 := j2.size
        have i1 := i1.kept0 j2
        have kz2 := kz1.then j2 (by simp)
        refine ⟨?_, ?_⟩
        · skip
          refine Al z2 _ fun z3 bP j3 sP => ?_
          have e3 := j3.size
          have i1 := i1.kept0 j3
          have i2 := i2.kept0 j3
          have kz3 := kz2.then j3 (by simp)
          refine Al z3 _ fun z4 bQ j4 sQ => ?_
          have e4 := j4.size
          have i1 := i1.kept0 j4
          have i2 := i2.kept0 j4
          have bP := bP.kept j4 (by simp)
          have kz4 := kz3.then j4 (by simp)
          exact fin _ _ _ _ _ kz4 bP bQ (by omega) (by omega) (by omega) i1 i2 (fun b o m cc h => by
            rcases h with h | h
            · have := f1 b o m cc h; have := g1 b o m cc h; omega
            · have := f2 b o m cc h; have := g2 b o m cc h; omega)
        · skip
          refine Al z2 _ fun z3 bQ j3 sQ => ?_
          have e3 := j3.size
          have i1 := i1.kept0 j3
          have i2 := i2.kept0 j3
          have kz3 := kz2.then j3 (by simp)
          refine Al z3 _ fun z4 bP j4 sP => ?_
          have e4 := j4.size
          have i1 := i1.kept0 j4
          have i2 := i2.kept0 j4
          have bQ := bQ.kept j4 (by simp)
          have kz4 := kz3.then j4 (by simp)
          exact fin _ _ _ _ _ kz4 bP bQ (by omega) (by omega) (by omega) i1 i2 (fun b o m cc h => by
            rcases h with h | h
            · have := f1 b o m cc h; have := g1 b o m cc h; omega
            · have := f2 b o m cc h; have := g2 b o m cc h; omega)
      · skip
        refine Al z1 _ fun z2 bP j2 sP => ?_
        have e2 := j2.size
        have i1 := i1.kept0 j2
        have kz2 := kz1.then j2 (by simp)
        refine T2 _ _ kz2 ?_
        refine ⟨?_, ?_⟩
        · skip
          refine C2 z2 _ kz2 fun y2 z3 i2 f2 g2 j3 => ?_
          have e3 := j3.size
          have i1 := i1.kept0 j3
          have bP := bP.kept j3 (by simp)
          have kz3 := kz2.then j3 (by simp)
          refine Al z3 _ fun z4 bQ j4 sQ => ?_
          have e4 := j4.size
          have i1 := i1.kept0 j4
          have bP := bP.kept j4 (by simp)
          have i2 := i2.kept0 j4
          have kz4 := kz3.then j4 (by simp)
          exact fin _ _ _ _ _ kz4 bP bQ (by omega) (by omega) (by omega) i1 i2 (fun b o m cc h => by
            rcases h with h | h
            · have := f1 b o m cc h; have := g1 b o m cc h; omega
            · have := f2 b o m cc h; have := g2 b o m cc h; omega)
        · skip
          refine Al z2 _ fun z3 bQ j3 sQ => ?_
          have e3 := j3.size
          have i1 := i1.kept0 j3
          have bP := bP.kept j3 (by simp)
          have kz3 := kz2.then j3 (by simp)
          refine T2 _ _ kz3 ?_
          refine C2 z3 _ kz3 fun y2 z4 i2 f2 g2 j4 => ?_
          have e4 := j4.size
          have i1 := i1.kept0 j4
          have bP := bP.kept j4 (by simp)
          have bQ := bQ.kept j4 (by simp)
          have kz4 := kz3.then j4 (by simp)
          exact fin _ _ _ _ _ kz4 bP bQ (by omega) (by omega) (by omega) i1 i2 (fun b o m cc h => by
            rcases h with h | h
            · have := f1 b o m cc h; have := g1 b o m cc h; omega
            · have := f2 b o m cc h; have := g2 b o m cc h; omega)
      · skip
        refine Al z1 _ fun z2 bQ j2 sQ => ?_
        have e2 := j2.size
        have i1 := i1.kept0 j2
        have kz2 := kz1.then j2 (by simp)
        refine T2 _ _ kz2 ?_
        refine ⟨?_, ?_⟩
        · skip
          refine C2 z2 _ kz2 fun y2 z3 i2 f2 g2 j3 => ?_
          have e3 := j3.size
          have i1 := i1.kept0 j3
          have bQ := bQ.kept j3 (by simp)
          have kz3 := kz2.then j3 (by simp)
          refine Al z3 _ fun z4 bP j4 sP => ?_
          have e4 := j4.size
          have i1 := i1.kept0 j4
          have bQ := bQ.kept j4 (by simp)
          have i2 := i2.kept0 j4
          have kz4 := kz3.then j4 (by simp)
          exact fin _ _ _ _ _ kz4 bP bQ (by omega) (by omega) (by omega) i1 i2 (fun b o m cc h => by
            rcases h with h | h
            · have := f1 b o m cc h; have := g1 b o m cc h; omega
            · have := f2 b o m cc h; have := g2 b o m cc h; omega)
        · skip
          refine Al z2 _ fun z3 bP j3 sP => ?_
          have e3 := j3.size
          have i1 := i1.kept0 j3
          have bQ := bQ.kept j3 (by simp)
          have kz3 := kz2.then j3 (by simp)
          refine T2 _ _ kz3 ?_
          refine C2 z3 _ kz3 fun y2 z4 i2 f2 g2 j4 => ?_
          have e4 := j4.size
          have i1 := i1.kept0 j4
          have bQ := bQ.kept j4 (by simp)
          have bP := bP.kept j4 (by simp)
          have kz4 := kz3.then j4 (by simp)
          exact fin _ _ _ _ _ kz4 bP bQ (by omega) (by omega) (by omega) i1 i2 (fun b o m cc h => by
            rcases h with h | h
            · have := f1 b o m cc h; have := g1 b o m cc h; omega
            · have := f2 b o m cc h; have := g2 b o m cc h; omega)
    · skip
      refine Al _ _ fun z1 bP j1 sP => ?_
      have e1 := j1.size
      have kz1 := hd.then j1 (by simp)
      refine T2 _ _ kz1 ?_
      refine T1 _ _ kz1 ?_
      refine ⟨?_, ?_⟩
      · skip
        refine C1 z1 _ kz1 fun y1 z2 i1 f1 g1 j2 => ?_
        have e2 := j2.size
        have bP := bP.kept j2 (by simp)
        have kz2 := kz1.then j2 (by simp)
        refine T2 _ _ kz2 ?_
        refine ⟨?_, ?_⟩
        · skip
          refine C2 z2 _ kz2 fun y2 z3 i2 f2 g2 j3 => ?_
          have e3 := j3.size
          have bP := bP.kept j3 (by simp)
          have i1 := i1.kept0 j3
          have kz3 := kz2.then j3 (by simp)
          refine Al z3 _ fun z4 bQ j4 sQ => ?_
          have e4 := j4.size
          have bP := bP.kept j4 (by simp)
          have i1 := i1.kept0 j4
          have i2 := i2.kept0 j4
          have kz4 := kz3.then j4 (by simp)
          exact fin _ _ _ _ _ kz4 bP bQ (by omega) (by omega) (by omega) i1 i2 (fun b o m cc h => by
            rcases h with h | h
            · have := f1 b o m cc h; have := g1 b o m cc h; omega
            · have := f2 b o m cc h; have := g2 b o m cc h; omega)
        · skip
          refine Al z2 _ fun z3 bQ j3 sQ => ?_
          have e3 := j3.size
          have bP := bP.kept j3 (by simp)
          have i1 := i1.kept0 j3
          have kz3 := kz2.then j3 (by simp)
          refine T2 _ _ kz3 ?_
          refine C2 z3 _ kz3 fun y2 z4 i2 f2 g2 j4 => ?_
          have e4 := j4.size
          have bP := bP.kept j4 (by simp)
          have i1 := i1.kept0 j4
          have bQ := bQ.kept j4 (by simp)
          have kz4 := kz3.then j4 (by simp)
          exact fin _ _ _ _ _ kz4 bP bQ (by omega) (by omega) (by omega) i1 i2 (fun b o m cc h => by
            rcases h with h | h
            · have := f1 b o m cc h; have := g1 b o m cc h; omega
            · have := f2 b o m cc h; have := g2 b o m cc h; omega)
      · skip
        refine Al z1 _ fun z2 bQ j2 sQ => ?_
        have e2 := j2.size
        have bP := bP.kept j2 (by simp)
        have kz2 := kz1.then j2 (by simp)
        refine T2 _ _ kz2 ?_
        refine T1 _ _ kz2 ?_
        refine C1 z2 _ kz2 fun y1 z3 i1 f1 g1 j3 => ?_
        have e3 := j3.size
        have bP := bP.kept j3 (by simp)
        have bQ := bQ.kept j3 (by simp)
        have kz3 := kz2.then j3 (by simp)
        refine T2 _ _ kz3 ?_
        refine C2 z3 _ kz3 fun y2 z4 i2 f2 g2 j4 => ?_
        have e4 := j4.size
        have bP := bP.kept j4 (by simp)
        have bQ := bQ.kept j4 (by simp)
        have i1 := i1.kept0 j4
        have kz4 := kz3.then j4 (by simp)
        exact fin _ _ _ _ _ kz4 bP bQ (by omega) (by omega) (by omega) i1 i2 (fun b o m cc h => by
          rcases h with h | h
          · have := f1 b o m cc h; have := g1 b o m cc h; omega
          · have := f2 b o m cc h; have := g2 b o m cc h; omega)
    · skip
      refine Al _ _ fun z1 bQ j1 sQ => ?_
      have e1 := j1.size
      have kz1 := hd.then j1 (by simp)
      refine T2 _ _ kz1 ?_
      refine T1 _ _ kz1 ?_
      refine ⟨?_, ?_⟩
      · skip
        refine C1 z1 _ kz1 fun y1 z2 i1 f1 g1 j2 => ?_
        have e2 := j2.size
        have bQ := bQ.kept j2 (by simp)
        have kz2 := kz1.then j2 (by simp)
        refine T2 _ _ kz2 ?_
        refine ⟨?_, ?_⟩
        · skip
          refine C2 z2 _ kz2 fun y2 z3 i2 f2 g2 j3 => ?_
          have e3 := j3.size
          have bQ := bQ.kept j3 (by simp)
          have i1 := i1.kept0 j3
          have kz3 := kz2.then j3 (by simp)
          refine Al z3 _ fun z4 bP j4 sP => ?_
          have e4 := j4.size
          have bQ := bQ.kept j4 (by simp)
          have i1 := i1.kept0 j4
          have i2 := i2.kept0 j4
          have kz4 := kz3.then j4 (by simp)
          exact fin _ _ _ _ _ kz4 bP bQ (by omega) (by omega) (by omega) i1 i2 (fun b o m cc h => by
            rcases h with h | h
            · have := f1 b o m cc h; have := g1 b o m cc h; omega
            · have := f2 b o m cc h; have := g2 b o m cc h; omega)
        · skip
          refine Al z2 _ fun z3 bP j3 sP => ?_
          have e3 := j3.size
          have bQ := bQ.kept j3 (by simp)
          have i1 := i1.kept0 j3
          have kz3 := kz2.then j3 (by simp)
          refine T2 _ _ kz3 ?_
          refine C2 z3 _ kz3 fun y2 z4 i2 f2 g2 j4 => ?_
          have e4 := j4.size
          have bQ := bQ.kept j4 (by simp)
          have i1 := i1.kept0 j4
          have bP := bP.kept j4 (by simp)
          have kz4 := kz3.then j4 (by simp)
          exact fin _ _ _ _ _ kz4 bP bQ (by omega) (by omega) (by omega) i1 i2 (fun b o m cc h => by
            rcases h with h | h
            · have := f1 b o m cc h; have := g1 b o m cc h; omega
            · have := f2 b o m cc h; have := g2 b o m cc h; omega)
      · skip
        refine Al z1 _ fun z2 bP j2 sP => ?_
        have e2 := j2.size
        have bQ := bQ.kept j2 (by simp)
        have kz2 := kz1.then j2 (by simp)
        refine T2 _ _ kz2 ?_
        refine T1 _ _ kz2 ?_
        refine C1 z2 _ kz2 fun y1 z3 i1 f1 g1 j3 => ?_
        have e3 := j3.size
        have bQ := bQ.kept j3 (by simp)
        have bP := bP.kept j3 (by simp)
        have kz3 := kz2.then j3 (by simp)
        refine T2 _ _ kz3 ?_
        refine C2 z3 _ kz3 fun y2 z4 i2 f2 g2 j4 => ?_
        have e4 := j4.size
        have bQ := bQ.kept j4 (by simp)
        have bP := bP.kept j4 (by simp)
        have i1 := i1.kept0 j4
        have kz4 := kz3.then j4 (by simp)
        exact fin _ _ _ _ _ kz4 bP bQ (by omega) (by omega) (by omega) i1 i2 (fun b o m cc h => by
          rcases h with h | h
          · have := f1 b o m cc h; have := g1 b o m cc h; omega
          · have := f2 b o m cc h; have := g2 b o m cc h; omega)
  rintro _ _ w3 ⟨p, q, y1, y2, rfl, hp3, hq3, i1, i2, hk3⟩
  have hd3 := kept_drew [] w3
  have i1d := i1.kept0 hd3
  have i2d := i2.kept0 hd3
  simp only [List.getD_cons_zero, List.getD_cons_succ]
  obtain ⟨A0, A1, A2, A3, A4⟩ := ldBt (blk_drew hp3)
  obtain ⟨D0, D1, D2, D3, D4⟩ := ldBt (blk_drew hq3)
  refine (A4 _).2 ?_
  refine (D4 _).2 ?_
  have L1 := Bt.bytes_pos (fewB b1)
  have L2 := Bt.bytes_pos (fewB b2)
  have P1 := Bt.bytes_le (fewB b1)
  have P2 := Bt.bytes_le (fewB b2)
  generalize fewB b1 = s1 at *
  generalize fewB b2 = s2 at *
  refine bPutS i1d (by omega) fun pv w4 hp4 hk4 => ?_
  refine (stBt ((blk_drew hq3).kept hk4 (by simp))).2 ?_
  refine bPutS (i2d.kept0 hk4) (by omega) fun qv w5 hq5 hk5 => ?_
  have hk35 : Kept [] w3 w5 := (hd3.then hk4 (by simp)).then hk5 (by simp)
  have hk05 := hk3.then hk35 (by simp)
  have hp5 : SlT w5 encB pv s1.bytes := hp4.kept0 hk5
  have hbp5 := hp3.kept hk35 (by simp)
  have hbq5 := hq3.kept hk35 (by simp)
  have i15 := i1.kept0 hk35
  have i25 := i2.kept0 hk35
  obtain ⟨pa, pc, rfl, hpc, hpr⟩ := hp5
  have hp5 : SlT w5 encB (.slice pa s1.bytes.length pc) s1.bytes := ⟨pa, pc, rfl, hpc, hpr⟩
  obtain ⟨qa, qc, rfl, hqc, hqr⟩ := hq5
  have hq5 : SlT w5 encB (.slice qa s2.bytes.length qc) s2.bytes := ⟨qa, qc, rfl, hqc, hqr⟩
  refine xJoin_of (fun vs w' => vs = [.bool (decide (s1.bytes.length = 0 ∨ s2.bytes.length = 0))] ∧ w5 = w') ?_ ?_
  · simp only [xP_nil, xP_pick, xP_func, xP_not, xP_add, xP_sub, xP_mul, xP_lss, xP_leq, xP_gtr, xP_geq, xP_max2, xP_min2, xR_eql, xR_neq, Nat.zero_add, Nat.add_zero, Nat.reduceAdd, List.getD_cons_zero, List.getD_cons_succ, xIf_true, xIf_false, FA_23_0, FA_23_1, FA_23_2, FA_23_3, FA_23_4, FA_32_0, FA_32_1, FA_32_2, FA_63_0, FA_63_1, FA_63_2, FA_63_3, FA_80_0, FA_80_1, FA_80_2, FA_85_0, FA_85_1, FA_85_2, LEN_24, LEN_25, LEN_30, LEN_33, LEN_58, LEN_82, LEN_134, xIf_dec]
    refine ⟨fun a => ⟨by rw [decide_eq_true (show s1.bytes.length = 0 ∨ s2.bytes.length = 0 by omega)], trivial⟩, fun a => ⟨by rw [decide_eq_decide.2 (show ((s2.bytes.length : Int) = 0) ↔ (s1.bytes.length = 0 ∨ s2.bytes.length = 0) by omega)], trivial⟩⟩
  rintro _ _ _ ⟨rfl, rfl⟩
  simp only [List.getD_cons_zero, xIf_dec]
  refine ⟨fun _ => ?_, fun hne => ?_⟩
  · obtain ⟨A0, A1, A2, A3, A4⟩ := ldBt hbp5
    simp only [xP_nil, xP_pick, xP_func, xP_not, xP_add, xP_sub, xP_mul, xP_lss, xP_leq, xP_gtr, xP_geq, xP_max2, xP_min2, xR_eql, xR_neq, Nat.zero_add, Nat.add_zero, Nat.reduceAdd, List.getD_cons_zero, List.getD_cons_succ, xIf_true, xIf_false, FA_23_0, FA_23_1, FA_23_2, FA_23_3, FA_23_4, FA_32_0, FA_32_1, FA_32_2, FA_63_0, FA_63_1, FA_63_2, FA_63_3, FA_80_0, FA_80_1, FA_80_2, FA_85_0, FA_85_1, FA_85_2, LEN_24, LEN_25, LEN_30, LEN_33, LEN_58, LEN_82, LEN_134, L1]
    refine (A4 _).2 ?_
    refine brightS i15 (by omega) fun w6 hk6 => ?_
    refine (xR_eqlBool BOOLG).2 ?_
    simp only [beq_self_eq_true, xIf_true, xP_nil, xP_pick, xP_func, xP_not, xP_add, xP_sub, xP_mul, xP_lss, xP_leq, xP_gtr, xP_geq, xP_max2, xP_min2, xR_eql, xR_neq, Nat.zero_add, Nat.add_zero, Nat.reduceAdd, List.getD_cons_zero, List.getD_cons_succ, xIf_true, xIf_false, FA_23_0, FA_23_1, FA_23_2, FA_23_3, FA_23_4, FA_32_0, FA_32_1, FA_32_2, FA_63_0, FA_63_1, FA_63_2, FA_63_3, FA_80_0, FA_80_1, FA_80_2, FA_85_0, FA_85_1, FA_85_2, LEN_24, LEN_25, LEN_30, LEN_33, LEN_58, LEN_82, LEN_134, L2]
    obtain ⟨D0, D1, D2, D3, D4⟩ := ldBt (hbq5.kept hk6 (by simp))
    refine (D4 _).2 ?_
    refine brightS (i25.kept0 hk6) (by omega) fun w7 hk7 => ?_
    refine (xR_eqlBool BOOLG).2 ?_
    simp only [beq_self_eq_true, xIf_true]
    exact bRunsG hgl ((hk05.then hk6 (by simp)).then hk7 (by simp))
  · have hr1 : s1.right = true := by rw [← L1]; exact decide_eq_true (by omega)
    have hr2 : s2.right = true := by rw [← L2]; exact decide_eq_true (by omega)
    refine bgetS hp5 (by omega) fun zv w6 hz6 _ hk6 => ?_
    rw [btGet_bytes hr1] at hz6 ⊢
    have hz6 : SlT w6 encS zv s1.v := hz6
    simp only [xP_ex0, xP_ex1, btOf, erOf, optV]
    refine newBt hz6.one fun w7 hb7 hk7 => ?_
    have hk57 := hk6.then hk7 (by simp)
    try simp only [xP_nil, xP_pick, xP_func, xP_not, xP_add, xP_sub, xP_mul, xP_lss, xP_leq, xP_gtr, xP_geq, xP_max2, xP_min2, xR_eql, xR_neq, Nat.zero_add, Nat.add_zero, Nat.reduceAdd, List.getD_cons_zero, List.getD_cons_succ, xIf_true, xIf_false, FA_23_0, FA_23_1, FA_23_2, FA_23_3, FA_23_4, FA_32_0, FA_32_1, FA_32_2, FA_63_0, FA_63_1, FA_63_2, FA_63_3, FA_80_0, FA_80_1, FA_80_2, FA_85_0, FA_85_1, FA_85_2, LEN_24, LEN_25, LEN_30, LEN_33, LEN_58, LEN_82, LEN_134]
    rw [wrap64 (by omega) (by omega)]
    refine xE_call CF_26 (within_ok (by omega) (by omega) (by omega)) ?_
    rintro _ _ ⟨rfl, rfl⟩
    obtain ⟨wb1, wb2⟩ := within_bd (n := n) (lo := 0) (hi := (s1.bytes.length : Int) - 1) (by omega)
    obtain ⟨k, hk⟩ := Int.eq_ofNat_of_zero_le wb1
    rw [hk] at wb2 ⊢
    refine (xP_upto SL_25 SZ_5 (by omega) (by omega)).2 ?_
    rw [Int.toNat_natCast]
    obtain ⟨j3, he3⟩ := btGet_cut hr1 (k := k) (by omega)
    have hcut : SlT w7 encB (.slice (if pc = 0 then pa else pa.map (·.add (0 * 1))) k pc) (s1.bytes.take k) := SlT.upto encB_len (hp5.kept0 hk57) (by omega)
    refine bgetS hcut (by rw [List.length_take]; omega) fun v8 w8 hv8 _ hk8 => ?_
    rw [he3] at hv8 ⊢
    simp only [xP_ex0, xP_ex1, btOf, erOf]
    refine newBt hv8.one fun w9 hb9 hk9 => ?_
    have hk59 := (hk57.then hk8 (by simp)).then hk9 (by simp)
    refine copyS (hp5.kept0 hk59) (by omega) fun u10 w10 F10 ho10 hF10 hk10 => ?_
    refine newBytes (l := [c]) rfl (by omega) (by omega) rfl fun cv w11 F11 ho11 hF11 hk11 => ?_
    refine xE_appendSrc EL_25 (ho10.kept hk11 (by simp)) (src_slT (l := [c]) (ownBytes (l := [c]) ho11)) (by simp; omega) (by unfold maxLen; simp; omega) fun u12 w12 F12 ho12 hk12 hF12 _ => ?_
    have hk912 : Kept [] w9 w12 := (hk10.then hk11 (by simp)).then hk12 (fun g hg => .inr (hF10 g hg))
    have hk512 := hk59.then hk912 (by simp)
    have ho12' : Own w12 5 1 u12 (s1.bytes ++ [c]).length ((s1.bytes ++ [c]).flatMap encB) F12 := by
      rw [List.flatMap_append, List.length_append]; exact ho12
    obtain ⟨j4, he4⟩ := btGet_tail hr1 (x := c)
    refine bgetS (ownBytes ho12') (by rw [List.length_append]; simp; omega) fun v13 w13 hv13 _ hk13 => ?_
    rw [he4] at hv13 ⊢
    simp only [xP_ex0, xP_ex1, btOf, erOf]
    refine newBt hv13.one fun w14 hb14 hk14 => ?_
    have hk514 := (hk512.then hk13 (by simp)).then hk14 (by simp)
    have hk714 : Kept [] w7 w14 := ((((hk8.then hk9 (by simp)).then hk912 (by simp)).then hk13 (by simp)).then hk14 (by simp))
    refine (xR_eqlN IFE).2 ?_
    simp only [xIf_true]
    have hkd := kept_drew [] w14
    have hk5d := hk514.then hkd (by simp)
    obtain ⟨A0, A1, A2, A3, A4⟩ := ldBt (b := s1) ((hb7.kept hk714 (by simp)).kept hkd (by simp))
    refine (A4 _).2 ?_
    obtain ⟨D0, D1, D2, D3, D4⟩ := ldBt (hbp5.kept hk5d (by simp))
    refine (D4 _).2 ?_
    refine same4S (b := s1) (c := s1) (((hz6.kept0 hk7).kept0 hk714).kept0 hkd) (i15.kept0 hk5d) (by omega) fun w15 hk15 => ?_
    simp only [decide_true, xIf_true]
    have hk515 := hk5d.then hk15 (by simp)
    obtain ⟨A0, A1, A2, A3, A4⟩ := ldBt (hbp5.kept hk515 (by simp))
    refine (A4 _).2 ?_
    obtain ⟨D0, D1, D2, D3, D4⟩ := ldBt (hbq5.kept hk515 (by simp))
    refine (D4 _).2 ?_
    refine bytesS (hp5.kept0 hk515) (hq5.kept0 hk515) (by omega) fun w16 hk16 => ?_
    have hk516 := hk515.then hk16 (by simp)
    refine (stBt (hbq5.kept hk516 (by simp))).2 ?_
    refine (stBt (hbp5.kept hk516 (by simp))).2 ?_
    refine same4S (i15.kept0 hk516) (i25.kept0 hk516) (by omega) fun w17 hk17 => ?_
    have hk017 := hk05.then (hk516.then hk17 (by simp)) (by simp)
    rw [bt_same hr1 hr2]
    refine (xR_eqlBool BOOLG).2 ?_
    simp only [beq_self_eq_true, xIf_true]
    refine kindE_ok (e := .flt opBG 0 (.flt opG j3 (.no 3))) (k := 3) trivial rfl (hgl.kept0 hk017) fun w18 hk18 => ?_
    simp only [xR_eql, decide_true, xIf_true]
    have hk018 := hk017.then hk18 (by simp)
    refine kindE_ok (e := .flt opBG 0 (.flt opG j4 (.no 4))) (k := 4) trivial rfl (hgl.kept0 hk018) fun w19 hk19 => ?_
    simp only [xR_eql, decide_true, xIf_true]
    exact bRunsG hgl (hk018.then hk19 (by simp))
end Go.Proofs.YtclojjiiiejfpaaDoor
