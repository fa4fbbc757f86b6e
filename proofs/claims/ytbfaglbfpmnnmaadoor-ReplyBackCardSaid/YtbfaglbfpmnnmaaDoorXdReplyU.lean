import Derived.Test.YtbfaglbfpmnnmaaDoorXdReplyT
import Derived.Test.YtbfaglbfpmnnmaaDoorXGramC
namespace Go.Proofs.YtbfaglbfpmnnmaaDoor
set_option linter.unusedSimpArgs false
set_option linter.unusedVariables false
set_option maxRecDepth 100000
attribute [local irreducible] Go.X.xE
open Go Go.X Go.RowKit

/-! ## ReplyBack -/
theorem rpSmall : ∀ f ∈ rpFields, f.hi ≤ 9223372036854775807 := rsmall
theorem bytes_pos (r : Rp) : decide ((0 : Int) < r.bytes.length) = r.right := by
  cases hr : r.right with
  | false => rw [rp_bytes_no r hr]; rfl
  | true => rw [rp_bytes r hr, rpB_len]; exact decide_eq_true (by omega)
theorem batchT_textT {p : Int × ByteArray} (h0 : 0 ≤ p.1) (h1 : p.1 ≤ 9223372036854775807) : batchT (textT p) = p := by
  obtain ⟨a, s⟩ := p
  obtain ⟨n, rfl⟩ := Int.eq_ofNat_of_zero_le h0
  have hb : bytesOf (textT ((n : Int), s)) = lowB n 8 ++ bytesOf s := by
    unfold textT mkS bytesOf
    rw [ByteArray.data_append, Array.toList_append]
  unfold batchT
  rw [hb, List.take_left' (lowB_len _ _), leNat_lowB 8 n (by simp at h1; omega), wrap64 (by omega) (by omega)]
  congr 1
  apply ByteArray.ext
  apply Array.toList_inj.1
  have hl : (textT ((n : Int), s)).size = 8 + s.size := textT_size _
  have hd : (textT ((n : Int), s)).data.toList = lowB n 8 ++ bytesOf s := hb
  simp only [ByteArray.data_extract, Array.toList_extract]
  rw [List.extract_eq_take_drop, hd, List.drop_left' (lowB_len _ _), hl, List.take_of_length_le (by rw [bytesOf_len]; omega)]
  rfl
def baseOk (r : Rp) : Prop := ∀ p ∈ r.batches, p.1 ≤ 9223372036854775807
theorem rpGet_bytes {r : Rp} (h : r.right = true) (hb : baseOk r) : rpGet r.bytes = .ok r := by
  obtain ⟨bs, hg, hby⟩ := right_put h
  have hget := gramGet_put rpSmall hg
  have hf := ((rp_right r).1 h)
  unfold rpGet
  rw [hby, hget]
  have hany : (List.any (r.batches.map textT) fun s => decide (s.size < 8)) = false := by
    rw [List.any_eq_false]
    intro s hs
    obtain ⟨p, hp, rfl⟩ := List.mem_map.1 hs
    rw [textT_size]
    simp
  have hback : (r.batches.map textT).map batchT = r.batches := by
    rw [List.map_map]
    refine (List.map_congr_left (fun p hp => ?_)).trans (List.map_id _)
    exact batchT_textT (hf.2 p hp) (hb p hp)
  simp only [Rp.vals]
  rw [hany, hback]
  simp only [Bool.false_eq_true, if_false]
  exact if_pos h
theorem rpGet_cut {r : Rp} (h : r.right = true) {k : Nat} (hk : k < r.bytes.length) : ∃ e, rpGet (r.bytes.take k) = .error e ∧ e.kind = 3 ∧ Er.plain e := by
  obtain ⟨bs, hg, hby⟩ := right_put h
  rw [hby] at hk ⊢
  obtain ⟨j, hj⟩ := gramGet_cut rpSmall hg hk
  exact ⟨.flt opRG 0 (.flt opG j (.no 3)), by unfold rpGet; rw [hj], rfl, trivial⟩
theorem rpGet_tail {r : Rp} (h : r.right = true) {x : UInt8} : ∃ e, rpGet (r.bytes ++ [x]) = .error e ∧ e.kind = 4 ∧ Er.plain e := by
  obtain ⟨bs, hg, hby⟩ := right_put h
  rw [hby]
  have hj := gramGet_tail rpSmall hg (r := [x]) (by simp)
  exact ⟨.flt opRG 0 (.flt opG bs.length (.no 4)), by unfold rpGet; rw [hj], rfl, trivial⟩
theorem bytes_same {r s : Rp} (hr : r.right = true) (hs : s.right = true) (br : baseOk r) (bs : baseOk s) : decide (r.bytes = s.bytes) = rpEq r s := by
  have h1 := rpGet_bytes hr br
  have h2 := rpGet_bytes hs bs
  rw [Bool.eq_iff_iff, decide_eq_true_iff, rpEq_iff]
  constructor
  · intro h; rw [h, h2] at h1; cases h1; rfl
  · intro h; rw [h]
theorem base_few {r : Rp} (h : baseOk r) : baseOk (fewR r) := by
  intro p hp
  simp only [fewR] at hp
  obtain ⟨q, hq, rfl⟩ := List.mem_map.1 hp
  exact h q (List.mem_of_mem_take hq)
theorem IsRp.keptFr {w w' : World} {M : List Nat} {B : Nat} {x : RawRp} {r : Rp} (h : IsRp w x r) (hk : Kept M w w') (h1 : Fr B x.nv) (h2 : Fr B x.bv) (hM : ∀ k ∈ M, k < B) : IsRp w' x r :=
  ⟨h.corr, h.err, h.base, h.next, h.names.kept hk (fun b o n c he hm => by have := h1 b o n c he; have := hM b hm; omega), h.batches.kept hk (fun b o n c he hm => by have := h2 b o n c he; have := hM b hm; omega)⟩

theorem back_ok {x1 x2 : RawRp} {r1 r2 : Rp} {n : Int} {c : UInt8} {w : World} (hgl : Glob w) (h1 : IsRp w x1 r1) (h2 : IsRp w x2 r2) (hb1 : baseOk r1) (hb2 : baseOk r2) :
    Gives Tryd.prog 10 #[vR x1, vR x2, .int .i64 n, .int .u8 c.toNat] w fun u w' => u = .bool true ∧ Kept [] w w' := by
  refine C_stavelaw23_ReplyBack ?_
  unfold S_stavelaw23_ReplyBack
  refine xE_box fun w1 hB1 hk1 hz1 => ?_
  refine xE_box fun w2 hB2 hk2 hz2 => ?_
  have hk02 := hk1.then hk2 (by simp)
  have hBx1 : Blk w2 w.heap.size 56 (encR x1) := Blk.kept hB1 hk2 (by simp)
  have hBx2 : Blk w2 w1.heap.size 56 (encR x2) := hB2
  have hd := kept_drew [] w2
  have hk0d := hk02.drew
  generalize w.heap.size = V1 at hBx1 ⊢
  generalize w1.heap.size = V2 at hBx2 ⊢
  have hok1 := fewR_ok r1
  have hok2 := fewR_ok r2
  have hbf1 := base_few hb1
  have hbf2 := base_few hb2
  have hpl1 := bytes_len (fewR r1)
  have hpl2 := bytes_len (fewR r2)
  refine xJoin_of (fun vs w' => ∃ (p q : Nat) (y1 y2 : RawRp), vs = [.pointer (some ⟨p, 0, none⟩), .pointer (some ⟨q, 0, none⟩)] ∧ Blk w' p 56 (encR y1) ∧ Blk w' q 56 (encR y2) ∧ IsRp w' y1 (fewR r1) ∧ IsRp w' y2 (fewR r2) ∧ Kept [] w w') ?_ ?_
  · refine (ldR0 (hBx1.kept hd (by simp))).2 ?_
    refine (ldR0 (hBx2.kept hd (by simp))).2 ?_
    -- the steps, in whatever order
    have C1 : ∀ (w' : World) (K : Value → World → Prop), Kept [] w2 w' → (∀ y w'', IsRp w'' y (fewR r1) → Fr w'.heap.size y.nv → Fr w'.heap.size y.bv → Lt w''.heap.size y.nv → Lt w''.heap.size y.bv → Kept [] w' w'' → K (vR y) w'') → xE Tryd.prog (sCall 20 #[vR x1]) w' K := fun w' K hk hK =>
      xE_call CF_20 (few2_ok (h1.kept0 (hk02.then hk (by simp)))) fun u w'' ⟨y, e, hy, hk', f1, f2, g1, g2⟩ => by subst e; exact hK y w'' hy f1 f2 g1 g2 hk'
    have C2 : ∀ (w' : World) (K : Value → World → Prop), Kept [] w2 w' → (∀ y w'', IsRp w'' y (fewR r2) → Fr w'.heap.size y.nv → Fr w'.heap.size y.bv → Lt w''.heap.size y.nv → Lt w''.heap.size y.bv → Kept [] w' w'' → K (vR y) w'') → xE Tryd.prog (sCall 20 #[vR x2]) w' K := fun w' K hk hK =>
      xE_call CF_20 (few2_ok (h2.kept0 (hk02.then hk (by simp)))) fun u w'' ⟨y, e, hy, hk', f1, f2, g1, g2⟩ => by subst e; exact hK y w'' hy f1 f2 g1 g2 hk'
    have Al : ∀ (w' : World) (K : Value → World → Prop), (∀ w'', Blk w'' w'.heap.size 56 (encR rawRp0) → Kept [] w' w'' → w''.heap.size = w'.heap.size + 1 → K (.pointer (some ⟨w'.heap.size, 0, none⟩)) w'') → xE Tryd.prog (sAlloc 56) w' K := fun w' K hK => xE_alloc Z_56 hK
    have T1 : ∀ (w' : World) (B : Prop), Kept [] w2 w' → B → xStill Tryd.prog (sLoad 56 (.pointer (some ⟨V1, 0, none⟩))) (vR x1) w' B := fun w' B hk hB => (stR0 (hBx1.kept hk (by simp))).2 hB
    have T2 : ∀ (w' : World) (B : Prop), Kept [] w2 w' → B → xStill Tryd.prog (sLoad 56 (.pointer (some ⟨V2, 0, none⟩))) (vR x2) w' B := fun w' B hk hB => (stR0 (hBx2.kept hk (by simp))).2 hB
    have fin : ∀ (p q : Nat) (y1 y2 : RawRp) (w' : World), Kept [] w2 w' → Blk w' p 56 (encR rawRp0) → Blk w' q 56 (encR rawRp0) → p ≠ q → w.heap.size ≤ p → w.heap.size ≤ q → IsRp w' y1 (fewR r1) → IsRp w' y2 (fewR r2) →
        (∀ b o m cc, (y1.nv = .slice (some ⟨b, o, none⟩) m cc ∨ y1.bv = .slice (some ⟨b, o, none⟩) m cc ∨ y2.nv = .slice (some ⟨b, o, none⟩) m cc ∨ y2.bv = .slice (some ⟨b, o, none⟩) m cc) → b ≠ p ∧ b ≠ q) →
        xE Tryd.prog (sStore 56 (.pointer (some ⟨p, 0, none⟩)) (vR y1)) w' fun _ w16 => xE Tryd.prog (sStore 56 (.pointer (some ⟨q, 0, none⟩)) (vR y2)) w16 fun _ w17 =>
          (fun (vs : List Value) w' => ∃ (p q : Nat) (y1 y2 : RawRp), vs = [.pointer (some ⟨p, 0, none⟩), .pointer (some ⟨q, 0, none⟩)] ∧ Blk w' p 56 (encR y1) ∧ Blk w' q 56 (encR y2) ∧ IsRp w' y1 (fewR r1) ∧ IsRp w' y2 (fewR r2) ∧ Kept [] w w') [.pointer (some ⟨p, 0, none⟩), .pointer (some ⟨q, 0, none⟩)] w17 := by
      intro p q y1 y2 w' hk hp hq hpq hwp hwq i1 i2 off
      refine xE_storeN (l1 := []) (l2 := encR rawRp0) (l3 := []) SZ_56 hp rfl rfl rfl i1.one fun w3 hb3 hk3 hz3 => ?_
      refine xE_storeN (l1 := []) (l2 := encR rawRp0) (l3 := []) SZ_56 (hq.kept hk3 (by simp; exact fun h => hpq h.symm)) rfl rfl rfl i2.one fun w4 hb4 hk4 hz4 => ?_
      have hk34 : Kept [p, q] w' w4 := (hk3.mono (by simp)).then hk4 (by simp)
      refine ⟨p, q, y1, y2, rfl, ?_, by simpa [vR, Value.cells] using hb4, ?_, ?_, (hk02.then hk (by simp)).then hk34 (by intro k hk; simp at hk; rcases hk with rfl | rfl <;> omega)⟩
      · have : Blk w3 p 56 (encR y1) := by simpa [vR, Value.cells] using hb3
        exact this.kept hk4 (by simp; exact hpq)
      · exact ⟨i1.corr, i1.err, i1.base, i1.next, i1.names.kept hk34 (fun b o m cc he hm => by have := off b o m cc (.inl he); simp at hm; omega), i1.batches.kept hk34 (fun b o m cc he hm => by have := off b o m cc (.inr (.inl he)); simp at hm; omega)⟩
      · exact ⟨i2.corr, i2.err, i2.base, i2.next, i2.names.kept hk34 (fun b o m cc he hm => by have := off b o m cc (.inr (.inr (.inl he))); simp at hm; omega), i2.batches.kept hk34 (fun b o m cc he hm => by have := off b o m cc (.inr (.inr (.inr he))); simp at hm; omega)⟩
    have e0 := hk02.size
    have e00 : w2.drew.heap.size = w2.heap.size := rfl
    refine ⟨?_, ?_, ?_⟩
    · skip
      refine C1 _ _ hd fun y1 z1 i1 f1 f1' g1 g1' j1 => ?_
      have e1 := j1.size
      have kz1 := hd.then j1 (by simp)
      refine T2 _ _ kz1 ?_
      refine ⟨?_, ?_, ?_⟩
      · skip
        refine C2 z1 _ kz1 fun y2 z2 i2 f2 f2' g2 g2' j2 => ?_
        have e2 := j2.size
        have i1 := i1.kept0 j2
        have kz2 := kz1.then j2 (by simp)
        refine ⟨?_, ?_⟩
        · skip
          refine Al z2 _ fun z3 bP j3 sP => ?_
          have e3 := j3.size
          have i1 := i1.kept0 j3
          have i2 := i2.kept0 j3
          have kz3 := kz2.then j3 (by simp)
          refine Al z3 _ fun z4 bQ j4 sQ => ?_
          have e4 := j4.size
          have i1 := i1.kept0 j4
          have i2 := i2.kept0 j4
          have bP := bP.kept j4 (by simp)
          have kz4 := kz3.then j4 (by simp)
          exact fin _ _ _ _ _ kz4 bP bQ (by omega) (by omega) (by omega) i1 i2 (fun b o m cc h => by
            rcases h with h | h | h | h
            · have := f1 b o m cc h; have := g1 b o m cc h; omega
            · have := f1' b o m cc h; have := g1' b o m cc h; omega
            · have := f2 b o m cc h; have := g2 b o m cc h; omega
            · have := f2' b o m cc h; have := g2' b o m cc h; omega)
        · skip
          refine Al z2 _ fun z3 bQ j3 sQ => ?_
          have e3 := j3.size
          have i1 := i1.kept0 j3
          have i2 := i2.kept0 j3
          have kz3 := kz2.then j3 (by simp)
          refine Al z3 _ fun z4 bP j4 sP => ?_
          have e4 := j4.size
          have i1 := i1.kept0 j4
          have i2 := i2.kept0 j4
          have bQ := bQ.kept j4 (by simp)
          have kz4 := kz3.then j4 (by simp)
          exact fin _ _ _ _ _ kz4 bP bQ (by omega) (by omega) (by omega) i1 i2 (fun b o m cc h => by
            rcases h with h | h | h | h
            · have := f1 b o m cc h; have := g1 b o m cc h; omega
            · have := f1' b o m cc h; have := g1' b o m cc h; omega
            · have := f2 b o m cc h; have := g2 b o m cc h; omega
            · have := f2' b o m cc h; have := g2' b o m cc h; omega)
      · skip
        refine Al z1 _ fun z2 bP j2 sP => ?_
        have e2 := j2.size
        have i1 := i1.kept0 j2
        have kz2 := kz1.then j2 (by simp)
        refine T2 _ _ kz2 ?_
        refine ⟨?_, ?_⟩
        · skip
          refine C2 z2 _ kz2 fun y2 z3 i2 f2 f2' g2 g2' j3 => ?_
          have e3 := j3.size
          have i1 := i1.kept0 j3
          have bP := bP.kept j3 (by simp)
          have kz3 := kz2.then j3 (by simp)
          refine Al z3 _ fun z4 bQ j4 sQ => ?_
          have e4 := j4.size
          have i1 := i1.kept0 j4
          have bP := bP.kept j4 (by simp)
          have i2 := i2.kept0 j4
          have kz4 := kz3.then j4 (by simp)
          exact fin _ _ _ _ _ kz4 bP bQ (by omega) (by omega) (by omega) i1 i2 (fun b o m cc h => by
            rcases h with h | h | h | h
            · have := f1 b o m cc h; have := g1 b o m cc h; omega
            · have := f1' b o m cc h; have := g1' b o m cc h; omega
            · have := f2 b o m cc h; have := g2 b o m cc h; omega
            · have := f2' b o m cc h; have := g2' b o m cc h; omega)
        · skip
          refine Al z2 _ fun z3 bQ j3 sQ => ?_
          have e3 := j3.size
          have i1 := i1.kept0 j3
          have bP := bP.kept j3 (by simp)
          have kz3 := kz2.then j3 (by simp)
          refine T2 _ _ kz3 ?_
          refine C2 z3 _ kz3 fun y2 z4 i2 f2 f2' g2 g2' j4 => ?_
          have e4 := j4.size
          have i1 := i1.kept0 j4
          have bP := bP.kept j4 (by simp)
          have bQ := bQ.kept j4 (by simp)
          have kz4 := kz3.then j4 (by simp)
          exact fin _ _ _ _ _ kz4 bP bQ (by omega) (by omega) (by omega) i1 i2 (fun b o m cc h => by
            rcases h with h | h | h | h
            · have := f1 b o m cc h; have := g1 b o m cc h; omega
            · have := f1' b o m cc h; have := g1' b o m cc h; omega
            · have := f2 b o m cc h; have := g2 b o m cc h; omega
            · have := f2' b o m cc h; have := g2' b o m cc h; omega)
      · skip
        refine Al z1 _ fun z2 bQ j2 sQ => ?_
        have e2 := j2.size
        have i1 := i1.kept0 j2
        have kz2 := kz1.then j2 (by simp)
        refine T2 _ _ kz2 ?_
        refine ⟨?_, ?_⟩
        · skip
          refine C2 z2 _ kz2 fun y2 z3 i2 f2 f2' g2 g2' j3 => ?_
          have e3 := j3.size
          have i1 := i1.kept0 j3
          have bQ := bQ.kept j3 (by simp)
          have kz3 := kz2.then j3 (by simp)
          refine Al z3 _ fun z4 bP j4 sP => ?_
          have e4 := j4.size
          have i1 := i1.kept0 j4
          have bQ := bQ.kept j4 (by simp)
          have i2 := i2.kept0 j4
          have kz4 := kz3.then j4 (by simp)
          exact fin _ _ _ _ _ kz4 bP bQ (by omega) (by omega) (by omega) i1 i2 (fun b o m cc h => by
            rcases h with h | h | h | h
            · have := f1 b o m cc h; have := g1 b o m cc h; omega
            · have := f1' b o m cc h; have := g1' b o m cc h; omega
            · have := f2 b o m cc h; have := g2 b o m cc h; omega
            · have := f2' b o m cc h; have := g2' b o m cc h; omega)
        · skip
          refine Al z2 _ fun z3 bP j3 sP => ?_
          have e3 := j3.size
          have i1 := i1.kept0 j3
          have bQ := bQ.kept j3 (by simp)
          have kz3 := kz2.then j3 (by simp)
          refine T2 _ _ kz3 ?_
          refine C2 z3 _ kz3 fun y2 z4 i2 f2 f2' g2 g2' j4 => ?_
          have e4 := j4.size
          have i1 := i1.kept0 j4
          have bQ := bQ.kept j4 (by simp)
          have bP := bP.kept j4 (by simp)
          have kz4 := kz3.then j4 (by simp)
          exact fin _ _ _ _ _ kz4 bP bQ (by omega) (by omega) (by omega) i1 i2 (fun b o m cc h => by
            rcases h with h | h | h | h
            · have := f1 b o m cc h; have := g1 b o m cc h; omega
            · have := f1' b o m cc h; have := g1' b o m cc h; omega
            · have := f2 b o m cc h; have := g2 b o m cc h; omega
            · have := f2' b o m cc h; have := g2' b o m cc h; omega)
    · skip
      refine Al _ _ fun z1 bP j1 sP => ?_
      have e1 := j1.size
      have kz1 := hd.then j1 (by simp)
      refine T2 _ _ kz1 ?_
      refine T1 _ _ kz1 ?_
      refine ⟨?_, ?_⟩
      · skip
        refine C1 z1 _ kz1 fun y1 z2 i1 f1 f1' g1 g1' j2 => ?_
        have e2 := j2.size
        have bP := bP.kept j2 (by simp)
        have kz2 := kz1.then j2 (by simp)
        refine T2 _ _ kz2 ?_
        refine ⟨?_, ?_⟩
        · skip
          refine C2 z2 _ kz2 fun y2 z3 i2 f2 f2' g2 g2' j3 => ?_
          have e3 := j3.size
          have bP := bP.kept j3 (by simp)
          have i1 := i1.kept0 j3
          have kz3 := kz2.then j3 (by simp)
          refine Al z3 _ fun z4 bQ j4 sQ => ?_
          have e4 := j4.size
          have bP := bP.kept j4 (by simp)
          have i1 := i1.kept0 j4
          have i2 := i2.kept0 j4
          have kz4 := kz3.then j4 (by simp)
          exact fin _ _ _ _ _ kz4 bP bQ (by omega) (by omega) (by omega) i1 i2 (fun b o m cc h => by
            rcases h with h | h | h | h
            · have := f1 b o m cc h; have := g1 b o m cc h; omega
            · have := f1' b o m cc h; have := g1' b o m cc h; omega
            · have := f2 b o m cc h; have := g2 b o m cc h; omega
            · have := f2' b o m cc h; have := g2' b o m cc h; omega)
        · skip
          refine Al z2 _ fun z3 bQ j3 sQ => ?_
          have e3 := j3.size
          have bP := bP.kept j3 (by simp)
          have i1 := i1.kept0 j3
          have kz3 := kz2.then j3 (by simp)
          refine T2 _ _ kz3 ?_
          refine C2 z3 _ kz3 fun y2 z4 i2 f2 f2' g2 g2' j4 => ?_
          have e4 := j4.size
          have bP := bP.kept j4 (by simp)
          have i1 := i1.kept0 j4
          have bQ := bQ.kept j4 (by simp)
          have kz4 := kz3.then j4 (by simp)
          exact fin _ _ _ _ _ kz4 bP bQ (by omega) (by omega) (by omega) i1 i2 (fun b o m cc h => by
            rcases h with h | h | h | h
            · have := f1 b o m cc h; have := g1 b o m cc h; omega
            · have := f1' b o m cc h; have := g1' b o m cc h; omega
            · have := f2 b o m cc h; have := g2 b o m cc h; omega
            · have := f2' b o m cc h; have := g2' b o m cc h; omega)
      · skip
        refine Al z1 _ fun z2 bQ j2 sQ => ?_
        have e2 := j2.size
        have bP := bP.kept j2 (by simp)
        have kz2 := kz1.then j2 (by simp)
        refine T2 _ _ kz2 ?_
        refine T1 _ _ kz2 ?_
        refine C1 z2 _ kz2 fun y1 z3 i1 f1 f1' g1 g1' j3 => ?_
        have e3 := j3.size
        have bP := bP.kept j3 (by simp)
        have bQ := bQ.kept j3 (by simp)
        have kz3 := kz2.then j3 (by simp)
        refine T2 _ _ kz3 ?_
        refine C2 z3 _ kz3 fun y2 z4 i2 f2 f2' g2 g2' j4 => ?_
        have e4 := j4.size
        have bP := bP.kept j4 (by simp)
        have bQ := bQ.kept j4 (by simp)
        have i1 := i1.kept0 j4
        have kz4 := kz3.then j4 (by simp)
        exact fin _ _ _ _ _ kz4 bP bQ (by omega) (by omega) (by omega) i1 i2 (fun b o m cc h => by
          rcases h with h | h | h | h
          · have := f1 b o m cc h; have := g1 b o m cc h; omega
          · have := f1' b o m cc h; have := g1' b o m cc h; omega
          · have := f2 b o m cc h; have := g2 b o m cc h; omega
          · have := f2' b o m cc h; have := g2' b o m cc h; omega)
    · skip
      refine Al _ _ fun z1 bQ j1 sQ => ?_
      have e1 := j1.size
      have kz1 := hd.then j1 (by simp)
      refine T2 _ _ kz1 ?_
      refine T1 _ _ kz1 ?_
      refine ⟨?_, ?_⟩
      · skip
        refine C1 z1 _ kz1 fun y1 z2 i1 f1 f1' g1 g1' j2 => ?_
        have e2 := j2.size
        have bQ := bQ.kept j2 (by simp)
        have kz2 := kz1.then j2 (by simp)
        refine T2 _ _ kz2 ?_
        refine ⟨?_, ?_⟩
        · skip
          refine C2 z2 _ kz2 fun y2 z3 i2 f2 f2' g2 g2' j3 => ?_
          have e3 := j3.size
          have bQ := bQ.kept j3 (by simp)
          have i1 := i1.kept0 j3
          have kz3 := kz2.then j3 (by simp)
          refine Al z3 _ fun z4 bP j4 sP => ?_
          have e4 := j4.size
          have bQ := bQ.kept j4 (by simp)
          have i1 := i1.kept0 j4
          have i2 := i2.kept0 j4
          have kz4 := kz3.then j4 (by simp)
          exact fin _ _ _ _ _ kz4 bP bQ (by omega) (by omega) (by omega) i1 i2 (fun b o m cc h => by
            rcases h with h | h | h | h
            · have := f1 b o m cc h; have := g1 b o m cc h; omega
            · have := f1' b o m cc h; have := g1' b o m cc h; omega
            · have := f2 b o m cc h; have := g2 b o m cc h; omega
            · have := f2' b o m cc h; have := g2' b o m cc h; omega)
        · skip
          refine Al z2 _ fun z3 bP j3 sP => ?_
          have e3 := j3.size
          have bQ := bQ.kept j3 (by simp)
          have i1 := i1.kept0 j3
          have kz3 := kz2.then j3 (by simp)
          refine T2 _ _ kz3 ?_
          refine C2 z3 _ kz3 fun y2 z4 i2 f2 f2' g2 g2' j4 => ?_
          have e4 := j4.size
          have bQ := bQ.kept j4 (by simp)
          have i1 := i1.kept0 j4
          have bP := bP.kept j4 (by simp)
          have kz4 := kz3.then j4 (by simp)
          exact fin _ _ _ _ _ kz4 bP bQ (by omega) (by omega) (by omega) i1 i2 (fun b o m cc h => by
            rcases h with h | h | h | h
            · have := f1 b o m cc h; have := g1 b o m cc h; omega
            · have := f1' b o m cc h; have := g1' b o m cc h; omega
            · have := f2 b o m cc h; have := g2 b o m cc h; omega
            · have := f2' b o m cc h; have := g2' b o m cc h; omega)
      · skip
        refine Al z1 _ fun z2 bP j2 sP => ?_
        have e2 := j2.size
        have bQ := bQ.kept j2 (by simp)
        have kz2 := kz1.then j2 (by simp)
        refine T2 _ _ kz2 ?_
        refine T1 _ _ kz2 ?_
        refine C1 z2 _ kz2 fun y1 z3 i1 f1 f1' g1 g1' j3 => ?_
        have e3 := j3.size
        have bQ := bQ.kept j3 (by simp)
        have bP := bP.kept j3 (by simp)
        have kz3 := kz2.then j3 (by simp)
        refine T2 _ _ kz3 ?_
        refine C2 z3 _ kz3 fun y2 z4 i2 f2 f2' g2 g2' j4 => ?_
        have e4 := j4.size
        have bQ := bQ.kept j4 (by simp)
        have bP := bP.kept j4 (by simp)
        have i1 := i1.kept0 j4
        have kz4 := kz3.then j4 (by simp)
        exact fin _ _ _ _ _ kz4 bP bQ (by omega) (by omega) (by omega) i1 i2 (fun b o m cc h => by
          rcases h with h | h | h | h
          · have := f1 b o m cc h; have := g1 b o m cc h; omega
          · have := f1' b o m cc h; have := g1' b o m cc h; omega
          · have := f2 b o m cc h; have := g2 b o m cc h; omega
          · have := f2' b o m cc h; have := g2' b o m cc h; omega)
  · rintro _ _ w3 ⟨p, q, y1, y2, rfl, hp3, hq3, i1, i2, hk3⟩
    have i1d := i1.kept0 (kept_drew [] w3)
    have i2d := i2.kept0 (kept_drew [] w3)
    simp only [List.getD_cons_zero, List.getD_cons_succ]
    refine (ldR0 (blk_drew hp3)).2 ?_
    refine (ldR0 (blk_drew hq3)).2 ?_
    have L1 := bytes_pos (fewR r1)
    have L2 := bytes_pos (fewR r2)
    have RG1 := fun h => rpGet_bytes (r := fewR r1) h hbf1
    have RC1 := fun h k hk => rpGet_cut (r := fewR r1) h (k := k) hk
    have RT1 := fun h => rpGet_tail (r := fewR r1) h (x := c)
    have BS := fun h h' => bytes_same (r := fewR r1) (s := fewR r2) h h' hbf1 hbf2
    have hnm1 : (fewR r1).names.length ≤ 9223372036854775806 ∧ (fewR r1).batches.length ≤ 9223372036854775806 := ⟨by have := hok1.1; omega, by have := hok1.2.1; omega⟩
    generalize fewR r1 = s1 at *
    generalize fewR r2 = s2 at *
    refine xE_call CF_21 (rPut_ok i1d hok1) ?_
    intro pv w4 hf4
    have hk4 := hf4.keptI
    refine (stR0 ((blk_drew hq3).kept hk4 (by simp))).2 ?_
    refine xE_call CF_21 (rPut_ok (i2d.kept0 hk4) hok2) ?_
    intro qv w5 hf5
    have hk5 := hf5.keptI
    have hk35 : Kept [] w3 w5 := ((kept_drew [] w3).then hk4 (by simp)).then hk5 (by simp)
    have hk05 := hk3.then hk35 (by simp)
    have hp5 : SlT w5 encB pv s1.bytes := hf4.slT.kept0 hk5
    have hq5 : SlT w5 encB qv s2.bytes := hf5.slT
    have hbp5 := hp3.kept hk35 (by simp)
    have hbq5 := hq3.kept hk35 (by simp)
    have i15 := i1.kept0 hk35
    have i25 := i2.kept0 hk35
    obtain ⟨pa, pc, rfl, hpc, hpr⟩ := hp5
    have hp5 : SlT w5 encB (.slice pa s1.bytes.length pc) s1.bytes := ⟨pa, pc, rfl, hpc, hpr⟩
    obtain ⟨qa, qc, rfl, hqc, hqr⟩ := hq5
    have hq5 : SlT w5 encB (.slice qa s2.bytes.length qc) s2.bytes := ⟨qa, qc, rfl, hqc, hqr⟩
    refine xJoin_of (fun vs w' => vs = [.bool (decide (s1.bytes.length = 0 ∨ s2.bytes.length = 0))] ∧ w5 = w') ?_ ?_
    · simp only [xP_nil, xP_pick, xP_func, xP_not, xP_add, xP_sub, xP_mul, xP_lss, xP_leq, xP_gtr, xP_geq, xP_max2, xP_min2, xR_eql, xR_neq, Nat.zero_add, Nat.add_zero, Nat.reduceAdd, List.getD_cons_zero, List.getD_cons_succ, xIf_true, xIf_false, FA_25_0, FA_39_0, FA_41_0, FA_41_1, FA_41_2, FA_56_0, FA_56_1, FA_56_2, FA_56_3, FA_56_4, FA_56_5, FA_72_0, FA_79_0, FA_79_1, FA_93_0, FA_93_1, FA_93_2, FA_102_2, FA_123_0, FA_123_1, FA_123_2, FA_123_3, FA_123_4, FA_131_0, FA_131_1, FA_131_2, LEN_35, LEN_45, LEN_49, LEN_53, LEN_54, LEN_57, LEN_86, LEN_88, LEN_147, xIf_dec]
      refine ⟨fun a => ⟨by rw [decide_eq_true (show s1.bytes.length = 0 ∨ s2.bytes.length = 0 by omega)], trivial⟩, fun a => ⟨by rw [decide_eq_decide.2 (show ((s2.bytes.length : Int) = 0) ↔ (s1.bytes.length = 0 ∨ s2.bytes.length = 0) by omega)], trivial⟩⟩
    rintro _ _ _ ⟨rfl, rfl⟩
    simp only [List.getD_cons_zero, xIf_dec]
    refine ⟨fun _ => ?_, fun hne => ?_⟩
    · simp only [xP_nil, xP_pick, xP_func, xP_not, xP_add, xP_sub, xP_mul, xP_lss, xP_leq, xP_gtr, xP_geq, xP_max2, xP_min2, xR_eql, xR_neq, Nat.zero_add, Nat.add_zero, Nat.reduceAdd, List.getD_cons_zero, List.getD_cons_succ, xIf_true, xIf_false, FA_25_0, FA_39_0, FA_41_0, FA_41_1, FA_41_2, FA_56_0, FA_56_1, FA_56_2, FA_56_3, FA_56_4, FA_56_5, FA_72_0, FA_79_0, FA_79_1, FA_93_0, FA_93_1, FA_93_2, FA_102_2, FA_123_0, FA_123_1, FA_123_2, FA_123_3, FA_123_4, FA_131_0, FA_131_1, FA_131_2, LEN_35, LEN_45, LEN_49, LEN_53, LEN_54, LEN_57, LEN_86, LEN_88, LEN_147, L1]
      refine (ldR0 hbp5).2 ?_
      refine xE_call CF_22 (rright_ok i15 hok1) ?_
      rintro _ w6 ⟨rfl, hk6⟩
      refine (xR_eqlBool BOOLR).2 ?_
      simp only [beq_self_eq_true, xIf_true, xP_nil, xP_pick, xP_func, xP_not, xP_add, xP_sub, xP_mul, xP_lss, xP_leq, xP_gtr, xP_geq, xP_max2, xP_min2, xR_eql, xR_neq, Nat.zero_add, Nat.add_zero, Nat.reduceAdd, List.getD_cons_zero, List.getD_cons_succ, xIf_true, xIf_false, FA_25_0, FA_39_0, FA_41_0, FA_41_1, FA_41_2, FA_56_0, FA_56_1, FA_56_2, FA_56_3, FA_56_4, FA_56_5, FA_72_0, FA_79_0, FA_79_1, FA_93_0, FA_93_1, FA_93_2, FA_102_2, FA_123_0, FA_123_1, FA_123_2, FA_123_3, FA_123_4, FA_131_0, FA_131_1, FA_131_2, LEN_35, LEN_45, LEN_49, LEN_53, LEN_54, LEN_57, LEN_86, LEN_88, LEN_147, L2]
      refine (ldR0 (hbq5.kept hk6 (by simp))).2 ?_
      refine xE_call CF_22 (rright_ok (i25.kept0 hk6) hok2) ?_
      rintro _ w7 ⟨rfl, hk7⟩
      refine (xR_eqlBool BOOLR).2 ?_
      simp only [beq_self_eq_true, xIf_true]
      refine xE_call CF_31 replyRuns_ok ?_
      rintro _ w8 ⟨rfl, hk8⟩
      exact ⟨rfl, ((hk05.then hk6 (by simp)).then hk7 (by simp)).then hk8 (by simp)⟩
    · have hr1 : s1.right = true := by rw [← L1]; exact decide_eq_true (by omega)
      have hr2 : s2.right = true := by rw [← L2]; exact decide_eq_true (by omega)
      refine xE_call CF_27 (rGet_ok hp5 (by omega)) ?_
      rintro r6 w6 ⟨hk6, hg6⟩
      rw [RG1 hr1] at hg6
      obtain ⟨xz, rfl, hz⟩ := hg6
      simp only [xP_ex0, xP_ex1]
      refine newR hz fun w7 hb7 hk7 => ?_
      have hk57 := hk6.then hk7 (by simp)
      try simp only [xP_nil, xP_pick, xP_func, xP_not, xP_add, xP_sub, xP_mul, xP_lss, xP_leq, xP_gtr, xP_geq, xP_max2, xP_min2, xR_eql, xR_neq, Nat.zero_add, Nat.add_zero, Nat.reduceAdd, List.getD_cons_zero, List.getD_cons_succ, xIf_true, xIf_false, FA_25_0, FA_39_0, FA_41_0, FA_41_1, FA_41_2, FA_56_0, FA_56_1, FA_56_2, FA_56_3, FA_56_4, FA_56_5, FA_72_0, FA_79_0, FA_79_1, FA_93_0, FA_93_1, FA_93_2, FA_102_2, FA_123_0, FA_123_1, FA_123_2, FA_123_3, FA_123_4, FA_131_0, FA_131_1, FA_131_2, LEN_35, LEN_45, LEN_49, LEN_53, LEN_54, LEN_57, LEN_86, LEN_88, LEN_147]
      rw [wrap64 (by omega) (by omega)]
      refine xE_call CF_16 (within_ok (by omega) (by omega) (by omega)) ?_
      rintro _ _ ⟨rfl, rfl⟩
      obtain ⟨wb1, wb2⟩ := within_bd (n := n) (lo := 0) (hi := (s1.bytes.length : Int) - 1) (by omega)
      obtain ⟨k, hk⟩ := Int.eq_ofNat_of_zero_le wb1
      rw [hk] at wb2 ⊢
      refine (xP_upto SL_57 SZ_5 (by omega) (by omega)).2 ?_
      rw [Int.toNat_natCast]
      obtain ⟨e3, he3, hk3', hpl3⟩ := RC1 hr1 k (by omega)
      have hcut : SlT w7 encB (.slice (if pc = 0 then pa else pa.map (·.add (0 * 1))) k pc) (s1.bytes.take k) := SlT.upto encB_len (hp5.kept0 hk57) (by omega)
      refine xE_call CF_27 (rGet_ok hcut (by rw [List.length_take]; omega)) ?_
      rintro r8 w8 ⟨hk8, hg8⟩
      rw [he3] at hg8
      subst hg8
      simp only [xP_ex0, xP_ex1]
      refine newR (isRp0 w8) fun w9 hb9 hk9 => ?_
      have hk59 := (hk57.then hk8 (by simp)).then hk9 (by simp)
      refine copyS (hp5.kept0 hk59) (by omega) fun u10 w10 F10 ho10 hF10 hk10 => ?_
      refine xE_buildSlice EL_57 [.int .u8 c.toNat] rfl rfl (by simp [Value.cells]) (by omega) (by omega) fun w11 hb11 hk11 hz11 => ?_
      have hat : At w11 w10.heap.size 0 ([c].flatMap encB) := hb11.at
      refine xE_append (m := 1) EL_57 (ho10.kept hk11 (by simp)) hat rfl (by simp [encB]; rfl) (by omega) (by unfold maxLen; omega) (by omega) fun u12 w12 F12 ho12 hk12 hF12 _ => ?_
      have hz5 := hk59.size
      have hk912 : Kept [] w9 w12 := (hk10.then hk11 (by simp)).then hk12 (fun g hg => .inr (hF10 g hg))
      have hk512 := hk59.then hk912 (by simp)
      have ho12' : Own w12 5 1 u12 (s1.bytes ++ [c]).length ((s1.bytes ++ [c]).flatMap encB) F12 := by
        rw [List.flatMap_append, List.length_append]; exact ho12
      obtain ⟨e4, he4, hk4', hpl4⟩ := RT1 hr1
      refine xE_call CF_27 (rGet_ok (ownBytes ho12') (by rw [List.length_append]; simp; omega)) ?_
      rintro r13 w13 ⟨hk13, hg13⟩
      rw [he4] at hg13
      subst hg13
      simp only [xP_ex0, xP_ex1]
      refine newR (isRp0 w13) fun w14 hb14 hk14 => ?_
      have hk514 := (hk512.then hk13 (by simp)).then hk14 (by simp)
      have hk714 : Kept [] w7 w14 := ((((hk8.then hk9 (by simp)).then hk912 (by simp)).then hk13 (by simp)).then hk14 (by simp))
      refine (xR_eqlN IFE).2 ?_
      simp only [xIf_true]
      have hkd := kept_drew [] w14
      have hk5d := hk514.then hkd (by simp)
      refine (ldR0 ((hb7.kept hk714 (by simp)).kept hkd (by simp))).2 ?_
      refine (ldR0 (hbp5.kept hk5d (by simp))).2 ?_
      refine xE_call CF_29 (replies_ok (((hz.kept0 hk7).kept0 hk714).kept0 hkd) (i15.kept0 hk5d) hnm1.1 hnm1.2) ?_
      rintro _ w15 ⟨rfl, hk15⟩
      rw [(rpEq_iff s1 s1).2 rfl]
      simp only [xIf_true]
      have hk515 := hk5d.then hk15 (by simp)
      refine (ldR0 (hbp5.kept hk515 (by simp))).2 ?_
      refine (ldR0 (hbq5.kept hk515 (by simp))).2 ?_
      refine xE_call CF_24 (sameB_ok (hp5.kept0 hk515) (hq5.kept0 hk515) (by omega)) ?_
      rintro _ w16 ⟨rfl, hk16⟩
      have hk516 := hk515.then hk16 (by simp)
      refine (stR0 (hbq5.kept hk516 (by simp))).2 ?_
      refine (stR0 (hbp5.kept hk516 (by simp))).2 ?_
      refine xE_call CF_29 (replies_ok (i15.kept0 hk516) (i25.kept0 hk516) hnm1.1 hnm1.2) ?_
      rintro _ w17 ⟨rfl, hk17⟩
      have hk017 := hk05.then (hk516.then hk17 (by simp)) (by simp)
      rw [BS hr1 hr2]
      refine (xR_eqlBool BOOLR).2 ?_
      simp only [beq_self_eq_true, xIf_true]
      refine xE_call CF_14 (kind_ok hpl3 (hgl.kept0 hk017)) ?_
      rintro _ w18 ⟨rfl, hk18⟩
      rw [hk3']
      simp only [xR_eql, decide_true, xIf_true]
      have hk018 := hk017.then hk18 (by simp)
      refine xE_call CF_14 (kind_ok hpl4 (hgl.kept0 hk018)) ?_
      rintro _ w19 ⟨rfl, hk19⟩
      rw [hk4']
      simp only [xR_eql, decide_true, xIf_true]
      refine xE_call CF_31 replyRuns_ok ?_
      rintro _ w20 ⟨rfl, hk20⟩
      exact ⟨rfl, (hk018.then hk19 (by simp)).then hk20 (by simp)⟩

/-! ## The argument, with its bounds -/
open Go.ChangeShapes Go.WideShapes in
theorem open_replyB {w : World} {r : Reach} {b0 : Nat} {H : Type} {e0 : TypeId × Value → H} {v : Value} {d : DataW H} {p : List MemPlace}
    (hv : Value.okWide Tryd.prog w r b0 56 v) (h : DataW.Trod e0 Tryd.prog w 0 (fun _ => true) true 56 v d p) : ∃ y : RawRp × Rp, v = vR y.1 ∧ IsRp w y.1 y.2 ∧ baseOk y.2 := by
  have opensTB : OpensE Tryd.prog w 79 encT fun p => p.1 ≤ 9223372036854775807 := by
    intro H e0 fuel cs x h
    obtain ⟨hl, hf⟩ := trod_struct_types SOT h
    obtain ⟨v0, n0, y0, h0, t0⟩ := hf 0 _ rfl
    obtain ⟨v1, n1, y1, h1, t1⟩ := hf 1 _ rfl
    obtain ⟨a, ha, hab⟩ := opens_int UI H e0 n0 _ _ t0
    obtain ⟨s, hs, _⟩ := opens_str STR H e0 n1 _ _ t1
    rcases cs with _ | ⟨c0, _ | ⟨c1, _ | ⟨c2, cs⟩⟩⟩ <;> simp at hl
    simp at h0 h1
    subst h0; subst h1
    simp [encI] at ha
    simp [encS] at hs
    exact ⟨(a, s), by rw [ha, hs]; rfl, hab.2⟩
  obtain ⟨cs, rfl, hl, hf⟩ := open_arg_struct SOR hv h
  obtain ⟨v0, n0, y0, h0, t0⟩ := hf 0 _ rfl
  obtain ⟨v1, n1, y1, h1, t1⟩ := hf 1 _ rfl
  obtain ⟨v2, n2, y2, h2, t2⟩ := hf 2 _ rfl
  obtain ⟨v3, n3, y3, h3, t3⟩ := hf 3 _ rfl
  obtain ⟨v4, n4, y4, h4, t4⟩ := hf 4 _ rfl
  obtain ⟨v5, n5, y5, h5, t5⟩ := hf 5 _ rfl
  obtain ⟨a0, ha0, _⟩ := opens_int UI H e0 n0 _ _ t0
  obtain ⟨a1, ha1, _⟩ := opens_int UER H e0 n1 _ _ t1
  obtain ⟨a2, ha2, _⟩ := opens_int UI H e0 n2 _ _ t2
  obtain ⟨a3, ha3, _⟩ := opens_int UI H e0 n3 _ _ t3
  obtain ⟨u4, l4, hu4, hs4, _, _⟩ := opens_slice USL (by kernel_rfl) encS_len (by omega) (opens_str STR) H e0 n4 _ _ t4
  obtain ⟨u5, l5, hu5, hs5, hok5, _⟩ := opens_slice UFL (by kernel_rfl) encT_len (by omega) opensTB H e0 n5 _ _ t5
  rcases cs with _ | ⟨c0, _ | ⟨c1, _ | ⟨c2, _ | ⟨c3, _ | ⟨c4, _ | ⟨c5, _ | ⟨c6, cs⟩⟩⟩⟩⟩⟩⟩ <;> simp at hl
  simp at h0 h1 h2 h3 h4 h5
  subst h0; subst h1; subst h2; subst h3; subst h4; subst h5
  simp [encI] at ha0 ha1 ha2 ha3
  simp at hu4 hu5
  subst ha0; subst ha1; subst ha2; subst ha3; subst hu4; subst hu5
  exact ⟨(⟨a0, a1, a2, a3, c4, c5⟩, ⟨a0, a1, a2, a3, l4, l5⟩), rfl, ⟨rfl, rfl, rfl, rfl, hs4, hs5⟩, hok5⟩
end Go.Proofs.YtbfaglbfpmnnmaaDoor
