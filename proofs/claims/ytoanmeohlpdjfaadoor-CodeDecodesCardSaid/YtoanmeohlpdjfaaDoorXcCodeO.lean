import Derived.Test.YtoanmeohlpdjfaaDoorXcCode5
import Derived.Test.YtoanmeohlpdjfaaDoorXcDoorP
import Derived.Test.YtoanmeohlpdjfaaDoorXB
namespace Go.Proofs.YtoanmeohlpdjfaaDoor
set_option linter.unusedSimpArgs false
set_option linter.unusedVariables false
set_option maxRecDepth 100000
attribute [local irreducible] Go.X.xE
open Go Go.X Go.ChangeShapes Go.WideShapes

theorem CUI : Tryd.prog.underlying 3 = some (.int .i64) := by kernel_rfl
theorem CUB : Tryd.prog.underlying 5 = some (.int .u8) := by kernel_rfl
theorem CUBL : Tryd.prog.underlying 32 = some (.slice 5) := by kernel_rfl
theorem CUIL : Tryd.prog.underlying 47 = some (.slice 3) := by kernel_rfl
theorem CUBLL : Tryd.prog.underlying 29 = some (.slice 32) := by kernel_rfl
theorem CUPL : Tryd.prog.underlying 48 = some (.slice 35) := by kernel_rfl
theorem SOPt : structOf Tryd.prog 35 [3, 32] := ⟨by kernel_rfl, by kernel_rfl, by kernel_rfl, by kernel_rfl⟩
section
variable {w : World} {r : Reach} {b0 : Nat} {H : Type} {e0 : TypeId × Value → H} {v : Value} {d : DataW H} {p : List MemPlace}
theorem open_bytes (hv : Value.okWide Tryd.prog w r b0 32 v) (h : DataW.Trod e0 Tryd.prog w 0 (fun _ => true) true 32 v d p) : ∃ l : List UInt8, SlT w encB v l ∧ l.length ≤ maxLen := by
  obtain ⟨l, h1, _, h2⟩ := open_arg_slice CUBL (by kernel_rfl) encB_len (by omega) (opens_byte CUB) hv h
  exact ⟨l, h1, h2⟩
theorem open_ints (hv : Value.okWide Tryd.prog w r b0 47 v) (h : DataW.Trod e0 Tryd.prog w 0 (fun _ => true) true 47 v d p) : ∃ l : List Int, SlT w encI v l ∧ l.length ≤ maxLen := by
  obtain ⟨l, h1, _, h2⟩ := open_arg_slice CUIL (by kernel_rfl) encI_len (by omega) (opens_int CUI) hv h
  exact ⟨l, h1, h2⟩
theorem open_byte (hv : Value.okWide Tryd.prog w r b0 5 v) (h : DataW.Trod e0 Tryd.prog w 0 (fun _ => true) true 5 v d p) : ∃ c : UInt8, v = .int .u8 c.toNat := by
  obtain ⟨n, rfl⟩ := okWide_int CUB hv
  obtain ⟨fuel, hf⟩ := h
  obtain ⟨y, hy, _⟩ := opens_byte CUB H e0 fuel _ _ hf
  simp [Value.cells, encB] at hy
  exact ⟨y, by rw [hy]⟩
theorem opens_row : OpensE Tryd.prog w 32 (fun v : Value => [v]) fun v => ∃ l : List UInt8, SlT w encB v l ∧ l.length ≤ maxLen := by
  intro H e0 fuel cs x h
  obtain ⟨u, l, rfl, hs, _, hl⟩ := opens_slice CUBL (by kernel_rfl) encB_len (by omega) (opens_byte CUB) H e0 fuel cs x h
  exact ⟨u, rfl, l, hs, hl⟩
theorem choose_rows {w : World} : ∀ {vs : List Value}, (∀ v ∈ vs, ∃ l : List UInt8, SlT w encB v l ∧ l.length ≤ maxLen) → ∃ rs : List (Value × List UInt8), rs.map (·.1) = vs ∧ ∀ r ∈ rs, SlT w encB r.1 r.2 ∧ r.2.length ≤ maxLen
  | [], _ => ⟨[], rfl, by simp⟩
  | v :: vs, h => by
    obtain ⟨l, hl⟩ := h v List.mem_cons_self
    obtain ⟨rs, h1, h2⟩ := choose_rows (fun y hy => h y (List.mem_cons_of_mem _ hy))
    exact ⟨(v, l) :: rs, by simp [h1], fun r hr => by
      rcases List.mem_cons.1 hr with rfl | hr
      · exact hl
      · exact h2 r hr⟩
theorem open_rows (hv : Value.okWide Tryd.prog w r b0 29 v) (h : DataW.Trod e0 Tryd.prog w 0 (fun _ => true) true 29 v d p) : ∃ l : List (List UInt8), RowsT w v l := by
  obtain ⟨vs, h1, h2, _⟩ := open_arg_slice (sz := 1) CUBLL (by kernel_rfl) (fun _ => rfl) (by omega) opens_row hv h
  obtain ⟨rs, h3, h4⟩ := choose_rows h2
  refine ⟨rs.map (·.2), rs, ?_, fun r hr => (h4 r hr).1, rfl⟩
  obtain ⟨a, c, rfl, hc, hr⟩ := h1
  refine ⟨a, c, by rw [← h3, List.length_map], by rw [← h3, List.length_map] at hc; exact hc, ?_⟩
  have e : vs.flatMap (fun v => [v]) = rs.flatMap encW := by
    rw [← h3]
    clear hc hr h2 h3 h4
    induction rs with
    | nil => rfl
    | cons r rs ih => rw [List.map_cons, List.flatMap_cons, List.flatMap_cons, ih]; rfl
  rcases hr with h0 | ⟨b, o, ha, hat⟩
  · left
    rw [h0] at h3
    exact List.map_eq_nil_iff.1 h3
  · right
    rw [e] at hat
    exact ⟨b, o, ha, hat⟩
theorem opensPt : OpensE Tryd.prog w 35 (fun q : Int × Value => [.int .i64 q.1, q.2]) fun q => ∃ l : List UInt8, SlT w encB q.2 l ∧ l.length ≤ maxLen := by
  intro H e0 fuel cs x h
  obtain ⟨hl, hf⟩ := trod_struct_types SOPt h
  obtain ⟨v0, n0, y0, h0, t0⟩ := hf 0 _ rfl
  obtain ⟨v1, n1, y1, h1, t1⟩ := hf 1 _ rfl
  obtain ⟨a, ha, _⟩ := opens_int CUI H e0 n0 _ _ t0
  obtain ⟨u, hu, hr⟩ := opens_row H e0 n1 _ _ t1
  rcases cs with _ | ⟨c0, _ | ⟨c1, _ | ⟨c2, cs⟩⟩⟩ <;> simp at hl
  simp at h0 h1
  subst h0; subst h1
  simp [encI] at ha
  simp at hu
  exact ⟨(a, u), by rw [ha, hu], hr⟩
theorem choose_pts {w : World} : ∀ {vs : List (Int × Value)}, (∀ q ∈ vs, ∃ l : List UInt8, SlT w encB q.2 l ∧ l.length ≤ maxLen) → ∃ l : List Pt, l.map (fun q => (q.at_, q.v)) = vs ∧ PtsOk w l
  | [], _ => ⟨[], rfl, fun q hq => by cases hq⟩
  | v :: vs, h => by
    obtain ⟨l, hl⟩ := h v List.mem_cons_self
    obtain ⟨rs, h1, h2⟩ := choose_pts (fun y hy => h y (List.mem_cons_of_mem _ hy))
    exact ⟨⟨v.1, v.2, l⟩ :: rs, by simp [h1], fun r hr => by
      rcases List.mem_cons.1 hr with rfl | hr
      · exact hl.1
      · exact h2 r hr⟩
theorem open_parts (hv : Value.okWide Tryd.prog w r b0 48 v) (h : DataW.Trod e0 Tryd.prog w 0 (fun _ => true) true 48 v d p) : ∃ l : List Pt, SlT w encPt v l ∧ PtsOk w l := by
  obtain ⟨vs, h1, h2, _⟩ := open_arg_slice (sz := 2) CUPL (by kernel_rfl) (fun _ => rfl) (by omega) opensPt hv h
  obtain ⟨l, h3, h4⟩ := choose_pts h2
  refine ⟨l, ?_, h4⟩
  obtain ⟨a, c, rfl, hc, hr⟩ := h1
  refine ⟨a, c, by rw [← h3, List.length_map], by rw [← h3, List.length_map] at hc; exact hc, ?_⟩
  have e : vs.flatMap (fun q => [.int .i64 q.1, q.2]) = l.flatMap encPt := by
    rw [← h3]
    clear hc hr h2 h3 h4
    induction l with
    | nil => rfl
    | cons r rs ih => rw [List.map_cons, List.flatMap_cons, List.flatMap_cons, ih]; rfl
  rcases hr with h0 | ⟨b, o, ha, hat⟩
  · left
    rw [h0] at h3
    exact List.map_eq_nil_iff.1 h3
  · right
    rw [e] at hat
    exact ⟨b, o, ha, hat⟩
end
end Go.Proofs.YtoanmeohlpdjfaaDoor
