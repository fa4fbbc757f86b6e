import Derived.Test.YtbfaglbfpmnnmaaDoorXdReply6D
import Derived.Test.YtbfaglbfpmnnmaaDoorXB
namespace Go.Proofs.YtbfaglbfpmnnmaaDoor
set_option linter.unusedSimpArgs false
set_option linter.unusedVariables false
set_option maxRecDepth 100000
attribute [local irreducible] Go.X.xE
open Go Go.X Go.ChangeShapes Go.WideShapes

theorem SOT : structOf Tryd.prog 79 [3, 9] := ⟨by kernel_rfl, by kernel_rfl, by kernel_rfl, by kernel_rfl⟩
theorem SOR : structOf Tryd.prog 56 [3, 31, 3, 3, 53, 54] := ⟨by kernel_rfl, by kernel_rfl, by kernel_rfl, by kernel_rfl⟩
theorem UI : Tryd.prog.underlying 3 = some (.int .i64) := by kernel_rfl
theorem UER : Tryd.prog.underlying 31 = some (.int .i64) := by kernel_rfl
theorem USL : Tryd.prog.underlying 53 = some (.slice 9) := by kernel_rfl
theorem UFL : Tryd.prog.underlying 54 = some (.slice 79) := by kernel_rfl
theorem UU8 : Tryd.prog.underlying 5 = some (.int .u8) := by kernel_rfl
theorem opensT {w : World} : OpensE Tryd.prog w 79 encT fun _ => True := by
  intro H e0 fuel cs x h
  obtain ⟨hl, hf⟩ := trod_struct_types SOT h
  obtain ⟨v0, n0, y0, h0, t0⟩ := hf 0 _ rfl
  obtain ⟨v1, n1, y1, h1, t1⟩ := hf 1 _ rfl
  obtain ⟨a, ha, _⟩ := opens_int UI H e0 n0 _ _ t0
  obtain ⟨s, hs, _⟩ := opens_str STR H e0 n1 _ _ t1
  rcases cs with _ | ⟨c0, _ | ⟨c1, _ | ⟨c2, cs⟩⟩⟩ <;> simp at hl
  simp at h0 h1
  subst h0; subst h1
  simp [encI] at ha
  simp [encS] at hs
  exact ⟨(a, s), by rw [ha, hs]; rfl, trivial⟩
theorem open_reply {w : World} {r : Reach} {b0 : Nat} {H : Type} {e0 : TypeId × Value → H} {v : Value} {d : DataW H} {p : List MemPlace}
    (hv : Value.okWide Tryd.prog w r b0 56 v) (h : DataW.Trod e0 Tryd.prog w 0 (fun _ => true) true 56 v d p) : ∃ y : RawRp × Rp, v = vR y.1 ∧ IsRp w y.1 y.2 := by
  obtain ⟨cs, rfl, hl, hf⟩ := open_arg_struct SOR hv h
  obtain ⟨v0, n0, y0, h0, t0⟩ := hf 0 _ rfl
  obtain ⟨v1, n1, y1, h1, t1⟩ := hf 1 _ rfl
  obtain ⟨v2, n2, y2, h2, t2⟩ := hf 2 _ rfl
  obtain ⟨v3, n3, y3, h3, t3⟩ := hf 3 _ rfl
  obtain ⟨v4, n4, y4, h4, t4⟩ := hf 4 _ rfl
  obtain ⟨v5, n5, y5, h5, t5⟩ := hf 5 _ rfl
  obtain ⟨a0, ha0, _⟩ := opens_int UI H e0 n0 _ _ t0
  obtain ⟨a1, ha1, _⟩ := opens_int UER H e0 n1 _ _ t1
  obtain ⟨a2, ha2, _⟩ := opens_int UI H e0 n2 _ _ t2
  obtain ⟨a3, ha3, _⟩ := opens_int UI H e0 n3 _ _ t3
  obtain ⟨u4, l4, hu4, hs4, _, _⟩ := opens_slice USL (by kernel_rfl) encS_len (by omega) (opens_str STR) H e0 n4 _ _ t4
  obtain ⟨u5, l5, hu5, hs5, _, _⟩ := opens_slice UFL (by kernel_rfl) encT_len (by omega) opensT H e0 n5 _ _ t5
  rcases cs with _ | ⟨c0, _ | ⟨c1, _ | ⟨c2, _ | ⟨c3, _ | ⟨c4, _ | ⟨c5, _ | ⟨c6, cs⟩⟩⟩⟩⟩⟩⟩ <;> simp at hl
  simp at h0 h1 h2 h3 h4 h5
  subst h0; subst h1; subst h2; subst h3; subst h4; subst h5
  simp [encI] at ha0 ha1 ha2 ha3
  simp at hu4 hu5
  subst ha0; subst ha1; subst ha2; subst ha3; subst hu4; subst hu5
  exact ⟨(⟨a0, a1, a2, a3, c4, c5⟩, ⟨a0, a1, a2, a3, l4, l5⟩), rfl, rfl, rfl, rfl, rfl, hs4, hs5⟩
theorem open_bytes {w : World} {r : Reach} {b0 : Nat} {H : Type} {e0 : TypeId × Value → H} {v : Value} {d : DataW H} {p : List MemPlace}
    (hv : Value.okWide Tryd.prog w r b0 57 v) (h : DataW.Trod e0 Tryd.prog w 0 (fun _ => true) true 57 v d p) : ∃ l : List UInt8, SlT w encB v l ∧ l.length ≤ maxLen := by
  obtain ⟨l, h1, _, h2⟩ := open_arg_slice UB (by kernel_rfl) encB_len (by omega) (opens_byte UU8) hv h
  exact ⟨l, h1, h2⟩
theorem open_byte {w : World} {r : Reach} {b0 : Nat} {H : Type} {e0 : TypeId × Value → H} {v : Value} {d : DataW H} {p : List MemPlace}
    (hv : Value.okWide Tryd.prog w r b0 5 v) (h : DataW.Trod e0 Tryd.prog w 0 (fun _ => true) true 5 v d p) : ∃ c : UInt8, v = .int .u8 c.toNat := by
  obtain ⟨n, rfl⟩ := okWide_int UU8 hv
  obtain ⟨fuel, hf⟩ := h
  obtain ⟨y, hy, _⟩ := opens_byte UU8 H e0 fuel _ _ hf
  simp [Value.cells, encB] at hy
  exact ⟨y, by rw [hy]⟩
end Go.Proofs.YtbfaglbfpmnnmaaDoor
