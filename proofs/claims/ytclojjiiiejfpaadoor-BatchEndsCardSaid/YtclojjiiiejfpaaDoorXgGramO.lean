import Derived.Test.YtclojjiiiejfpaaDoorXgGramL2
import Derived.Test.YtclojjiiiejfpaaDoorXB
namespace Go.Proofs.YtclojjiiiejfpaaDoor
set_option linter.unusedSimpArgs false
set_option linter.unusedVariables false
set_option maxRecDepth 100000
attribute [local irreducible] Go.X.xE
open Go Go.X Go.ChangeShapes Go.WideShapes

theorem SOFd : structOf Tryd.prog 23 [3, 3, 3, 3, 3] := ⟨by kernel_rfl, by kernel_rfl, by kernel_rfl, by kernel_rfl⟩
theorem SOVl : structOf Tryd.prog 32 [3, 9, 30] := ⟨by kernel_rfl, by kernel_rfl, by kernel_rfl, by kernel_rfl⟩
theorem UI : Tryd.prog.underlying 3 = some (.int .i64) := by kernel_rfl
theorem USL : Tryd.prog.underlying 30 = some (.slice 9) := by kernel_rfl
theorem UFdL : Tryd.prog.underlying 24 = some (.slice 23) := by kernel_rfl
theorem UVlL : Tryd.prog.underlying 33 = some (.slice 32) := by kernel_rfl
theorem UU8 : Tryd.prog.underlying 5 = some (.int .u8) := by kernel_rfl
theorem opensFd {w : World} : OpensE Tryd.prog w 23 encF fun f => f.hi ≤ 9223372036854775807 := by
  intro H e0 fuel cs x h
  obtain ⟨hl, hf⟩ := trod_struct_types SOFd h
  obtain ⟨v0, n0, y0, h0, t0⟩ := hf 0 _ rfl
  obtain ⟨v1, n1, y1, h1, t1⟩ := hf 1 _ rfl
  obtain ⟨v2, n2, y2, h2, t2⟩ := hf 2 _ rfl
  obtain ⟨v3, n3, y3, h3, t3⟩ := hf 3 _ rfl
  obtain ⟨v4, n4, y4, h4, t4⟩ := hf 4 _ rfl
  obtain ⟨a, ha, _⟩ := opens_int UI H e0 n0 _ _ t0
  obtain ⟨b, hb, _⟩ := opens_int UI H e0 n1 _ _ t1
  obtain ⟨c, hc, _⟩ := opens_int UI H e0 n2 _ _ t2
  obtain ⟨d, hd, hdb⟩ := opens_int UI H e0 n3 _ _ t3
  obtain ⟨e, he, _⟩ := opens_int UI H e0 n4 _ _ t4
  rcases cs with _ | ⟨c0, _ | ⟨c1, _ | ⟨c2, _ | ⟨c3, _ | ⟨c4, _ | ⟨c5, cs⟩⟩⟩⟩⟩⟩ <;> simp at hl
  simp at h0 h1 h2 h3 h4
  subst h0; subst h1; subst h2; subst h3; subst h4
  simp [encI] at ha hb hc hd he
  exact ⟨⟨a, b, c, d, e⟩, by rw [ha, hb, hc, hd, he]; rfl, hdb.2⟩
theorem open_fields {w : World} {r : Reach} {b0 : Nat} {H : Type} {e0 : TypeId × Value → H} {v : Value} {d : DataW H} {p : List MemPlace}
    (hv : Value.okWide Tryd.prog w r b0 24 v) (h : DataW.Trod e0 Tryd.prog w 0 (fun _ => true) true 24 v d p) : ∃ l : List GFd, SlT w encF v l ∧ small l := by
  obtain ⟨l, h1, h2, h3⟩ := open_arg_slice UFdL (by kernel_rfl) encF_len (by omega) opensFd hv h
  exact ⟨l, h1, h2⟩
theorem opensVl {w : World} : OpensE Tryd.prog w 32 encV fun x => ∃ v : GVl, IsV w x v := by
  intro H e0 fuel cs x h
  obtain ⟨hl, hf⟩ := trod_struct_types SOVl h
  obtain ⟨v0, n0, y0, h0, t0⟩ := hf 0 _ rfl
  obtain ⟨v1, n1, y1, h1, t1⟩ := hf 1 _ rfl
  obtain ⟨v2, n2, y2, h2, t2⟩ := hf 2 _ rfl
  obtain ⟨a, ha, _⟩ := opens_int UI H e0 n0 _ _ t0
  obtain ⟨s, hs, _⟩ := opens_str STR H e0 n1 _ _ t1
  obtain ⟨u, l, hu, hsl, _, _⟩ := opens_slice USL (by kernel_rfl) encS_len (by omega) (opens_str STR) H e0 n2 _ _ t2
  rcases cs with _ | ⟨c0, _ | ⟨c1, _ | ⟨c2, _ | ⟨c3, cs⟩⟩⟩⟩ <;> simp at hl
  simp at h0 h1 h2
  subst h0; subst h1; subst h2
  simp [encI] at ha
  simp [encS] at hs
  simp at hu
  subst hu
  exact ⟨⟨a, s, c2⟩, by rw [ha, hs]; rfl, ⟨a, s, l⟩, rfl, rfl, hsl⟩
theorem choose_row {w : World} : ∀ {raws : List RawV}, (∀ x ∈ raws, ∃ v : GVl, IsV w x v) → ∃ vs, IsRow w raws vs
  | [], _ => ⟨[], IsRow.nil w⟩
  | x :: raws, h => by
    obtain ⟨v, hv⟩ := h x List.mem_cons_self
    obtain ⟨vs, h1, h2⟩ := choose_row (fun y hy => h y (List.mem_cons_of_mem _ hy))
    refine ⟨v :: vs, by simp [h1], fun i a b ha hb => ?_⟩
    cases i with
    | zero => simp at ha hb; subst ha; subst hb; exact hv
    | succ i => exact h2 i a b (by simpa using ha) (by simpa using hb)
theorem open_vals {w : World} {r : Reach} {b0 : Nat} {H : Type} {e0 : TypeId × Value → H} {v : Value} {d : DataW H} {p : List MemPlace}
    (hv : Value.okWide Tryd.prog w r b0 33 v) (h : DataW.Trod e0 Tryd.prog w 0 (fun _ => true) true 33 v d p) : ∃ l : List RawV × List GVl, SlT w encV v l.1 ∧ IsRow w l.1 l.2 := by
  obtain ⟨l, h1, h2, h3⟩ := open_arg_slice UVlL (by kernel_rfl) encV_len (by omega) opensVl hv h
  obtain ⟨vs, hvs⟩ := choose_row h2
  exact ⟨(l, vs), h1, hvs⟩
theorem open_bytes {w : World} {r : Reach} {b0 : Nat} {H : Type} {e0 : TypeId × Value → H} {v : Value} {d : DataW H} {p : List MemPlace}
    (hv : Value.okWide Tryd.prog w r b0 25 v) (h : DataW.Trod e0 Tryd.prog w 0 (fun _ => true) true 25 v d p) : ∃ l : List UInt8, SlT w encB v l ∧ l.length ≤ maxLen := by
  obtain ⟨l, h1, _, h2⟩ := open_arg_slice UB (by kernel_rfl) encB_len (by omega) (opens_byte UU8) hv h
  exact ⟨l, h1, h2⟩
theorem open_byte {w : World} {r : Reach} {b0 : Nat} {H : Type} {e0 : TypeId × Value → H} {v : Value} {d : DataW H} {p : List MemPlace}
    (hv : Value.okWide Tryd.prog w r b0 5 v) (h : DataW.Trod e0 Tryd.prog w 0 (fun _ => true) true 5 v d p) : ∃ c : UInt8, v = .int .u8 c.toNat := by
  obtain ⟨n, rfl⟩ := okWide_int UU8 hv
  obtain ⟨fuel, hf⟩ := h
  obtain ⟨y, hy, _⟩ := opens_byte UU8 H e0 fuel _ _ hf
  simp [Value.cells, encB] at hy
  exact ⟨y, by rw [hy]⟩
end Go.Proofs.YtclojjiiiejfpaaDoor
