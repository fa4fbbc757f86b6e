import Derived.Test.YtbfaglbfpmnnmaaDoorXdReply3D
import Derived.Test.YtbfaglbfpmnnmaaDoorXB
import Derived.Test.YtbfaglbfpmnnmaaDoorXdSame1
namespace Go.Proofs.YtbfaglbfpmnnmaaDoor
set_option linter.unusedSimpArgs false
set_option linter.unusedVariables false
set_option maxRecDepth 100000
attribute [local irreducible] Go.X.xE
open Go Go.X

theorem FLT : flatB Tryd.prog 79 [(0, false), (1, true)] := ⟨by kernel_rfl, by kernel_rfl, by kernel_rfl, by kernel_rfl⟩
theorem cellsT (p : Int × ByteArray) : ∀ s ∈ [(0, false), (1, true)], CellOK (encT p).toArray s := by
  intro s hs
  simp at hs
  rcases hs with rfl | rfl
  · exact ⟨p.1, rfl⟩
  · exact ⟨p.2, rfl⟩
theorem sameT_ok {xs ys : List (Int × ByteArray)} {a b : Value} {w : World} (ha : SlT w encT a xs) (hb : SlT w encT b ys) (hl : xs.length ≤ 9223372036854775806) :
    Gives Tryd.prog 48 #[a, b] w fun u w' => u = .bool (decide (xs = ys)) ∧ Kept [] w w' := by
  refine C_stavebook_Same_api_Fetched ?_
  refine xSame rowT ha hb hl (fun x y w' K => ?_) (fun w' hk => ⟨rfl, hk⟩)
  refine (xR_neqF FLT (fun s hs => ⟨cellsT x s hs, cellsT y s hs⟩)).trans ?_
  have e : (!([(0, false), (1, true)].all fun s => cellEq (encT x).toArray[s.1]? (encT y).toArray[s.1]?)) = !decide (x = y) := by
    obtain ⟨x1, x2⟩ := x
    obtain ⟨y1, y2⟩ := y
    simp [encT, cellEq, Prod.mk.injEq]
  rw [e]

/-- Are two replies the same? -/
def rpEq (x y : Rp) : Bool := decide (x.corr = y.corr) && (decide (x.err = y.err) && (decide (x.base = y.base) && (decide (x.next = y.next) && (decide (x.names = y.names) && decide (x.batches = y.batches)))))
theorem rpEq_iff (x y : Rp) : rpEq x y = true ↔ x = y := by
  cases x; cases y; simp [rpEq]
theorem replies_ok {x y : RawRp} {r s : Rp} {w : World} (hx : IsRp w x r) (hy : IsRp w y s) (h1 : r.names.length ≤ 9223372036854775806) (h2 : r.batches.length ≤ 9223372036854775806) :
    Gives Tryd.prog 29 #[vR x, vR y] w fun u w' => u = .bool (rpEq r s) ∧ Kept [] w w' := by
  refine C_stavekeep_Replies ?_
  unfold S_stavekeep_Replies
  refine xE_box fun w1 hb1 hk1 hz1 => ?_
  refine xE_box fun w2 hb2 hk2 hz2 => ?_
  have hb1' : Blk w2 w.heap.size 56 (encR x) := Blk.kept hb1 hk2 (by simp)
  have hb2' : Blk w2 w1.heap.size 56 (encR y) := hb2
  have hk : Kept [] w w2 := hk1.then hk2 (by simp)
  generalize w.heap.size = B at *
  generalize w1.heap.size = B1 at *
  obtain ⟨L0, L1, L2, L3, L4, L5, L6⟩ := ldR hb1'
  obtain ⟨M0, M1, M2, M3, M4, M5, M6⟩ := ldR hb2'
  simp only [xP_nil, xP_pick, xP_func, xP_not, xP_add, xP_sub, xP_mul, xP_lss, xP_leq, xP_gtr, xP_geq, xP_max2, xP_min2, xR_eql, xR_neq, Nat.zero_add, Nat.add_zero, Nat.reduceAdd, List.getD_cons_zero, List.getD_cons_succ, xIf_true, xIf_false, FA_25_0, FA_39_0, FA_41_0, FA_41_1, FA_41_2, FA_56_0, FA_56_1, FA_56_2, FA_56_3, FA_56_4, FA_56_5, FA_72_0, FA_79_0, FA_79_1, FA_93_0, FA_93_1, FA_93_2, FA_102_2, FA_123_0, FA_123_1, FA_123_2, FA_123_3, FA_123_4, FA_131_0, FA_131_1, FA_131_2, LEN_35, LEN_45, LEN_49, LEN_53, LEN_54, LEN_57, LEN_86, LEN_88, LEN_147, L0, L1, L2, L3, L4, L5, M0, M1, M2, M3, M4, M5, xIf_dec, hx.corr, hx.err, hx.base, hx.next, hy.corr, hy.err, hy.base, hy.next]
  have no : ∀ {p : Prop}, ¬ p → ∀ w', Kept [] w w' → (rpEq r s = true → p) → Ret (fun u w' => u = .bool (rpEq r s) ∧ Kept [] w w') (.returned (.bool false)) w' := fun hp w' hk' h => ⟨by
    cases hr : rpEq r s with
    | true => exact absurd (h hr) hp
    | false => rfl, hk'⟩
  refine ⟨fun a1 => ⟨fun a2 => ⟨fun a3 => ⟨fun a4 => ?_, fun hn => ?_⟩, fun hn => ?_⟩, fun hn => ?_⟩, fun hn => ?_⟩
  · refine xE_call CF_47 (sameS_ok (hx.names.kept0 hk) (hy.names.kept0 hk) h1) ?_
    rintro _ w3 ⟨rfl, hk3⟩
    obtain ⟨N0, N1, N2, N3, N4, N5, N6⟩ := ldR (hb1'.kept hk3 (by simp))
    obtain ⟨O0, O1, O2, O3, O4, O5, O6⟩ := ldR (hb2'.kept hk3 (by simp))
    have hk03 := hk.then hk3 (by simp)
    simp only [xP_nil, xP_pick, xP_func, xP_not, xP_add, xP_sub, xP_mul, xP_lss, xP_leq, xP_gtr, xP_geq, xP_max2, xP_min2, xR_eql, xR_neq, Nat.zero_add, Nat.add_zero, Nat.reduceAdd, List.getD_cons_zero, List.getD_cons_succ, xIf_true, xIf_false, FA_25_0, FA_39_0, FA_41_0, FA_41_1, FA_41_2, FA_56_0, FA_56_1, FA_56_2, FA_56_3, FA_56_4, FA_56_5, FA_72_0, FA_79_0, FA_79_1, FA_93_0, FA_93_1, FA_93_2, FA_102_2, FA_123_0, FA_123_1, FA_123_2, FA_123_3, FA_123_4, FA_131_0, FA_131_1, FA_131_2, LEN_35, LEN_45, LEN_49, LEN_53, LEN_54, LEN_57, LEN_86, LEN_88, LEN_147, N5, O5, xIf_dec]
    refine ⟨fun a5 => ?_, fun hn => no hn w3 hk03 (fun h => by rw [rpEq_iff] at h; rw [h])⟩
    refine xE_call CF_48 (sameT_ok (hx.batches.kept0 hk03) (hy.batches.kept0 hk03) h2) ?_
    rintro _ w4 ⟨rfl, hk4⟩
    refine ⟨?_, hk03.then hk4 (by simp)⟩
    unfold rpEq
    rw [a1, a2, a3, a4, a5]
    simp
  · exact no hn w2 hk (fun h => by rw [rpEq_iff] at h; rw [h])
  · exact no hn w2 hk (fun h => by rw [rpEq_iff] at h; rw [h])
  · exact no hn w2 hk (fun h => by rw [rpEq_iff] at h; rw [h])
  · exact no hn w2 hk (fun h => by rw [rpEq_iff] at h; rw [h])

/-- ReplyRuns: its call. -/
def rp1 : Rp := ⟨1, 10, 0, 0, [], []⟩
theorem rp1_bytes : rp1.bytes = [1, 0, 0, 0, 10, 0, 0, 0, 0, 0, 0, 0, 0, 0, 0, 0, 0, 0, 0, 0, 0, 0, 0] := by decide +kernel
theorem replyRuns_ok {w : World} : Gives Tryd.prog 31 #[] w fun u w' => u = .bool true ∧ Kept [] w w' := by
  refine C_stavelaw23_ReplyRuns ?_
  unfold S_stavelaw23_ReplyRuns
  refine (xP_build (cells := (encR ⟨1, 10, 0, 0, .slice none 0 0, .slice none 0 0⟩).toArray) (by kernel_rfl)).2 ?_
  have h0 : ∀ w : World, IsRp w ⟨1, 10, 0, 0, .slice none 0 0, .slice none 0 0⟩ rp1 := fun w => ⟨rfl, rfl, rfl, rfl, ⟨none, 0, rfl, by simp [rp1], .inl rfl⟩, ⟨none, 0, rfl, by simp [rp1], .inl rfl⟩⟩
  refine xE_call CF_21 (rPut_ok (h0 w) ⟨by simp [rp1], by simp [rp1], by simp [rp1]⟩) ?_
  rintro u w1 ⟨F, ho, hF, hk1⟩
  have hu := ho.slT encB_len (by omega)
  rw [rp1_bytes] at hu
  refine xE_buildSlice EL_57 [.int .u8 1, .int .u8 0, .int .u8 0, .int .u8 0, .int .u8 10, .int .u8 0, .int .u8 0, .int .u8 0, .int .u8 0, .int .u8 0, .int .u8 0, .int .u8 0, .int .u8 0, .int .u8 0, .int .u8 0, .int .u8 0, .int .u8 0, .int .u8 0, .int .u8 0, .int .u8 0, .int .u8 0, .int .u8 0, .int .u8 0] rfl rfl (by simp [Value.cells]) (by omega) (by omega) fun w2 hb2 hk2 hz2 => ?_
  refine xE_call CF_24 (sameB_ok (hu.kept0 hk2) (ys := [1, 0, 0, 0, 10, 0, 0, 0, 0, 0, 0, 0, 0, 0, 0, 0, 0, 0, 0, 0, 0, 0, 0]) ⟨_, _, rfl, by simp, .inr ⟨_, _, rfl, hb2.at⟩⟩ (by simp)) ?_
  rintro _ w3 ⟨rfl, hk3⟩
  exact ⟨by simp, (hk1.then hk2 (by simp)).then hk3 (by simp)⟩
end Go.Proofs.YtbfaglbfpmnnmaaDoor
