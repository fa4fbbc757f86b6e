import Derived.Test.YtfjoepdmjopelaaDoorXkDisk5
import Derived.Test.YtfjoepdmjopelaaDoorXkDoorP
import Derived.Test.YtfjoepdmjopelaaDoorXB
namespace Go.Proofs.YtfjoepdmjopelaaDoor
set_option linter.unusedSimpArgs false
set_option linter.unusedVariables false
set_option maxRecDepth 100000
attribute [local irreducible] Go.X.xE
open Go Go.X Go.ChangeShapes Go.WideShapes

theorem DUI : Tryd.prog.underlying 3 = some (.int .i64) := by kernel_rfl
theorem DUB : Tryd.prog.underlying 5 = some (.int .u8) := by kernel_rfl
theorem DU64 : Tryd.prog.underlying 31 = some (.int .u64) := by kernel_rfl
theorem DU32 : Tryd.prog.underlying 67 = some (.int .u32) := by kernel_rfl
theorem DUBo : Tryd.prog.underlying 4 = some .bool := by kernel_rfl
theorem SODk : structOf Tryd.prog 33 [3, 3, 3, 5, 31, 4] := ⟨by kernel_rfl, by kernel_rfl, by kernel_rfl, by kernel_rfl⟩
theorem UDkL : Tryd.prog.underlying 22 = some (.slice 33) := by kernel_rfl
theorem opens_u64 {w : World} : OpensE Tryd.prog w 31 (fun n : Int => [.int .u64 n]) fun n => 0 ≤ n ∧ n ≤ 18446744073709551615 := by
  intro H e0 fuel cs x hx
  obtain ⟨n, rfl, _, hw⟩ := DataW.trod_int DU64 hx
  exact ⟨n, rfl, by simpa [Lit.wf, IntKind.min, IntKind.max, IntKind.signed, IntKind.bits] using hw⟩
theorem opens_u32 {w : World} : OpensE Tryd.prog w 67 (fun n : Int => [.int .u32 n]) fun n => 0 ≤ n ∧ n ≤ 4294967295 := by
  intro H e0 fuel cs x hx
  obtain ⟨n, rfl, _, hw⟩ := DataW.trod_int DU32 hx
  exact ⟨n, rfl, by simpa [Lit.wf, IntKind.min, IntKind.max, IntKind.signed, IntKind.bits] using hw⟩
theorem opensDk {w : World} : OpensE Tryd.prog w 33 encA fun q => 0 ≤ q.bits ∧ q.bits ≤ 18446744073709551615 := by
  intro H e0 fuel cs x h
  obtain ⟨hl, hf⟩ := trod_struct_types SODk h
  obtain ⟨v0, n0, y0, h0, t0⟩ := hf 0 _ rfl
  obtain ⟨v1, n1, y1, h1, t1⟩ := hf 1 _ rfl
  obtain ⟨v2, n2, y2, h2, t2⟩ := hf 2 _ rfl
  obtain ⟨v3, n3, y3, h3, t3⟩ := hf 3 _ rfl
  obtain ⟨v4, n4, y4, h4, t4⟩ := hf 4 _ rfl
  obtain ⟨v5, n5, y5, h5, t5⟩ := hf 5 _ rfl
  obtain ⟨a, ha, _⟩ := opens_int DUI H e0 n0 _ _ t0
  obtain ⟨b, hb, _⟩ := opens_int DUI H e0 n1 _ _ t1
  obtain ⟨c, hc, _⟩ := opens_int DUI H e0 n2 _ _ t2
  obtain ⟨d, hd, _⟩ := opens_byte DUB H e0 n3 _ _ t3
  obtain ⟨e, he, heb⟩ := opens_u64 H e0 n4 _ _ t4
  obtain ⟨f, hf', _⟩ := opens_bool DUBo H e0 n5 _ _ t5
  rcases cs with _ | ⟨c0, _ | ⟨c1, _ | ⟨c2, _ | ⟨c3, _ | ⟨c4, _ | ⟨c5, _ | ⟨c6, cs⟩⟩⟩⟩⟩⟩⟩ <;> simp at hl
  simp at h0 h1 h2 h3 h4 h5
  subst h0; subst h1; subst h2; subst h3; subst h4; subst h5
  simp [encI] at ha hb hc
  simp [encB] at hd
  simp at he hf'
  exact ⟨⟨a, b, c, d, e, f⟩, by rw [ha, hb, hc, hd, he, hf']; rfl, heb⟩
theorem open_dasks {w : World} {r : Reach} {b0 : Nat} {H : Type} {e0 : TypeId × Value → H} {v : Value} {d : DataW H} {p : List MemPlace}
    (hv : Value.okWide Tryd.prog w r b0 22 v) (h : DataW.Trod e0 Tryd.prog w 0 (fun _ => true) true 22 v d p) : ∃ l : List DA, SlT w encA v l := by
  obtain ⟨l, h1, _, h2⟩ := open_arg_slice UDkL (by kernel_rfl) encA_len (by omega) opensDk hv h
  exact ⟨l, h1⟩
theorem open_byte {w : World} {r : Reach} {b0 : Nat} {H : Type} {e0 : TypeId × Value → H} {v : Value} {d : DataW H} {p : List MemPlace}
    (hv : Value.okWide Tryd.prog w r b0 5 v) (h : DataW.Trod e0 Tryd.prog w 0 (fun _ => true) true 5 v d p) : ∃ c : UInt8, v = .int .u8 c.toNat := by
  obtain ⟨n, rfl⟩ := okWide_int DUB hv
  obtain ⟨fuel, hf⟩ := h
  obtain ⟨y, hy, _⟩ := opens_byte DUB H e0 fuel _ _ hf
  simp [Value.cells, encB] at hy
  exact ⟨y, by rw [hy]⟩
theorem open_u64 {w : World} {r : Reach} {b0 : Nat} {H : Type} {e0 : TypeId × Value → H} {v : Value} {d : DataW H} {p : List MemPlace}
    (hv : Value.okWide Tryd.prog w r b0 31 v) (h : DataW.Trod e0 Tryd.prog w 0 (fun _ => true) true 31 v d p) : ∃ c : Int, v = .int .u64 c := by
  obtain ⟨n, rfl⟩ := okWide_int DU64 hv
  exact ⟨n, rfl⟩
theorem open_u32 {w : World} {r : Reach} {b0 : Nat} {H : Type} {e0 : TypeId × Value → H} {v : Value} {d : DataW H} {p : List MemPlace}
    (hv : Value.okWide Tryd.prog w r b0 67 v) (h : DataW.Trod e0 Tryd.prog w 0 (fun _ => true) true 67 v d p) : ∃ c : Int, v = .int .u32 c ∧ 0 ≤ c ∧ c ≤ 4294967295 := by
  obtain ⟨n, rfl⟩ := okWide_int DU32 hv
  obtain ⟨fuel, hf⟩ := h
  obtain ⟨y, hy, hb⟩ := opens_u32 H e0 fuel _ _ hf
  simp [Value.cells] at hy
  subst hy
  exact ⟨_, rfl, hb⟩
end Go.Proofs.YtfjoepdmjopelaaDoor
