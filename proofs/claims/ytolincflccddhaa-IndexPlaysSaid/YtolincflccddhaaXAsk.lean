import Derived.Test.YtolincflccddhaaXNear
namespace Go.Proofs.Ytolincflccddhaa
open Go Go.X Go.RowKit Go.ChangeShapes Go.WideShapes

structure Ask where
  kind : Int
  gap : Int
  count : Int
  time : Int
def encA (a : Ask) : List Value := [.int .i64 a.kind, .int .i64 a.gap, .int .i64 a.count, .int .i64 a.time]
theorem encA_len (a : Ask) : (encA a).length = 4 := rfl
theorem ask_cells (a : Ask) : ∀ u ∈ encA a, u.oneCell' = true := by
  intro u hu
  simp [encA] at hu
  rcases hu with rfl | rfl | rfl | rfl <;> rfl

theorem open_asks {H : Type} {enc : TypeId × Value → H} {w : World} {base : Nat} {v : Value} {d : DataW H} {p : List MemPlace} (hv : Value.okWide Try.prog w .any base 34 v)
    (h : DataW.Trod enc Try.prog w 0 (fun _ => true) true 34 v d p) : ∃ l : List Ask, SlT w encA v l := by
  have hB : intsB Try.prog 34 37 4 := ⟨Try.underlying34, Try.prog.fieldsOf 37, by kernel_rfl, by kernel_rfl, by kernel_rfl, by kernel_rfl, by kernel_rfl⟩
  obtain ⟨a, n, c, rfl, hc, hr⟩ := open_int_structs (by omega) hB (okWide_slice Try.underlying34 hv) h
  rcases hr with rfl | ⟨b, o, rfl, hcell⟩
  · exact ⟨[], a, c, rfl, by simp, .inl rfl⟩
  · let num : Nat → Int := fun q => match w.cell? ⟨b, o + q, none⟩ with | some (.int _ x) => x | _ => 0
    have hnum : ∀ i, i < n → ∀ j, j < 4 → w.cell? ⟨b, o + (i * 4 + j), none⟩ = some (.int .i64 (num (i * 4 + j))) := by
      intro i hi j hj
      obtain ⟨x, hx, _⟩ := hcell i hi j hj
      simp only [num, hx]
    refine ⟨(List.range n).map fun i => ⟨num (i * 4), num (i * 4 + 1), num (i * 4 + 2), num (i * 4 + 3)⟩, some ⟨b, o, none⟩, c, by simp, by simpa using hc, .inr ⟨b, o, rfl, at_flat encA_len _ _ fun i x hx => ?_⟩⟩
    rw [List.getElem?_map] at hx
    rcases Nat.lt_or_ge i n with hi | hi
    · rw [List.getElem?_range hi] at hx
      simp at hx
      subst hx
      intro j hj
      simp only [encA_len] at hj
      have := hnum i hi j hj
      rw [Nat.add_assoc, this]
      match j, hj with
      | 0, _ => rfl
      | 1, _ => rfl
      | 2, _ => rfl
      | 3, _ => rfl
    · rw [List.getElem?_eq_none (by simpa using hi)] at hx
      cases hx

theorem SB_26 : structB Try.prog 26 [0, 1, 2, 3, 4] := ⟨by kernel_rfl, by kernel_rfl, by kernel_rfl, by kernel_rfl, by kernel_rfl⟩
theorem head_ints (h : Hd) : ∀ o, o < (encH h).toArray.size → ∃ n, (encH h).toArray[o]? = some (.int .i64 n) := by
  intro o ho
  simp [encH] at ho
  match o, ho with
  | 0, _ => exact ⟨_, rfl⟩
  | 1, _ => exact ⟨_, rfl⟩
  | 2, _ => exact ⟨_, rfl⟩
  | 3, _ => exact ⟨_, rfl⟩
  | 4, _ => exact ⟨_, rfl⟩
theorem head_all (a b : Hd) : ([0, 1, 2, 3, 4].all fun o => intAt (encH a).toArray o == intAt (encH b).toArray o) = decide (a = b) := by
  obtain ⟨a0, a1, a2, a3, a4⟩ := a
  obtain ⟨b0, b1, b2, b3, b4⟩ := b
  rw [Bool.eq_iff_iff]
  simp [intAt, encH]
theorem neqH {K : Value → Prop} {w : World} {c : Bool} {a b : Hd} : xR Try.prog (sEq .neq 26 c (vH a) (vH b)) w K ↔ K (.bool (!(decide (a = b)))) := by
  unfold vH
  rw [xR_neqS SB_26 (head_ints a) (head_ints b) (by simp [encH]), head_all]
theorem eqlH {K : Value → Prop} {w : World} {c : Bool} {a b : Hd} : xR Try.prog (sEq .eql 26 c (vH a) (vH b)) w K ↔ K (.bool (decide (a = b))) := by
  unfold vH
  rw [xR_eqlS SB_26 (head_ints a) (head_ints b) (by simp [encH]), head_all]
end Go.Proofs.Ytolincflccddhaa
