import Derived.Test.YtoanmeohlpdjfaaDoorXB
import Derived.Test.YtoanmeohlpdjfaaDoorXCopy2
import Derived.Test.YtoanmeohlpdjfaaDoorXCau
namespace Go.X
set_option linter.unusedSimpArgs false
set_option linter.unusedVariables false
open Go Go.RowKit

section
variable {w w' : World} {E : TypeId} {sz n : Nat} {v : Value} {xs : List Value} {F : List Nat}
theorem Own.ex (h : Own w E sz v n xs F) (hn : 0 < n) : ∃ g o c, v = .slice (some ⟨g, o, none⟩) n c ∧ F = [g] := by
  rcases h.2 with ⟨_, h0, _⟩ | ⟨g, o, cap, cur, e, hF, _⟩
  · omega
  · exact ⟨g, o, cap, e, hF⟩
theorem Own.at_ {g o c : Nat} (h : Own w E sz (.slice (some ⟨g, o, none⟩) n c) n xs F) : F = [g] ∧ At w g o xs := by
  rcases h.2 with ⟨he, _⟩ | ⟨g', o', cp, cur, he, hF, hblk, hn, hm, hs, ht⟩
  · cases he
  · cases he
    refine ⟨hF, ?_⟩
    rw [← ht]
    have := hblk.at.sub o (n * sz)
    rwa [Nat.zero_add] at this
theorem Own.oneC (h : Own w E sz v n xs F) : v.oneCell' = true := by
  rcases h.2 with ⟨rfl, _⟩ | ⟨_, _, _, _, rfl, _⟩ <;> rfl
theorem Own.nd (h : Own w E sz v n xs F) : F.Nodup := by
  rcases h.2 with ⟨_, _, rfl⟩ | ⟨_, _, _, _, _, rfl, _⟩ <;> simp
theorem flip_set8 {p : List UInt8} {i : Nat} {v : UInt8} : (p.flatMap encB).set i (.int .u8 v.toNat) = (p.set i v).flatMap encB := by
  rw [flat_B, flat_B, List.map_set]
end
theorem encB_one8 (b : UInt8) : ∀ u ∈ encB b, u.oneCell' = true := by
  intro u hu
  simp [encB] at hu
  subst hu
  rfl
theorem getD_lt {α : Type} {l : List α} {i : Nat} {d : α} (h : i < l.length) : l.getD i d = l[i] := by
  rw [List.getD_eq_getElem?_getD, List.getElem?_eq_getElem h]
  rfl

theorem SlT.base_lt {α : Type} {w : World} {enc : α → List Value} {v : Value} {l : List α} (h : SlT w enc v l) (hl : 0 < (l.flatMap enc).length) : ∀ b o n c, v = .slice (some ⟨b, o, none⟩) n c → b < w.heap.size := by
  intro b o n c e
  obtain ⟨a, c', e', _, hr⟩ := h
  rcases hr with rfl | ⟨b', o', ha, hat⟩
  · simp at hl
  · rw [e'] at e
    subst ha
    cases e
    have := hat 0 hl
    rw [List.getElem?_eq_getElem hl] at this
    simpa using block_lt_of_cell this
theorem SlT.base8 {w : World} {v : Value} {l : List UInt8} (h : SlT w encB v l) (hl : 0 < l.length) : ∀ b o n c, v = .slice (some ⟨b, o, none⟩) n c → b < w.heap.size :=
  h.base_lt (by rw [flat_len encB_len]; omega)

/-! ## Lists of rows of bytes, only read -/
def encW (r : Value × List UInt8) : List Value := [r.1]
def RowsT (w : World) (v : Value) (l : List (List UInt8)) : Prop := ∃ rs : List (Value × List UInt8), SlT w encW v rs ∧ (∀ r ∈ rs, SlT w encB r.1 r.2) ∧ rs.map (·.2) = l
section
variable {w w' : World} {v : Value} {l : List (List UInt8)}
theorem RowsT.kept0 (h : RowsT w v l) (hk : Kept [] w w') : RowsT w' v l := by
  obtain ⟨rs, h1, h2, h3⟩ := h
  exact ⟨rs, h1.kept0 hk, fun r hr => (h2 r hr).kept0 hk, h3⟩
theorem RowsT.sl (h : RowsT w v l) : ∃ a c, v = .slice a l.length c := by
  obtain ⟨rs, ⟨a, c, h1, _⟩, _, h3⟩ := h
  exact ⟨a, c, by rw [h1, ← h3, List.length_map]⟩
theorem RowsT.nil (w : World) : RowsT w (.slice none 0 0) [] := ⟨[], SlT.nil_ w encW, by simp, rfl⟩
theorem RowsT.get {P : Program} {T E : TypeId} (hr : RowB P T E 1 encW fun r => r.1) (h : RowsT w v l) (hk : Kept [] w w') {i : Nat} (hi : i < l.length) {q : IntKind} {K : Value → Prop} (k : ∀ u, SlT w encB u (l.getD i []) → K u) :
    xP P (sIA T v (.int q i)) fun u => xR P (sLoad E u) w' K := by
  obtain ⟨rs, h1, h2, rfl⟩ := h
  rw [List.length_map] at hi
  refine (hr.get h1 hk hi).2 (k _ ?_)
  rw [getD_lt (by rw [List.length_map]; exact hi), List.getElem_map]
  exact h2 _ (List.getElem_mem hi)
/-- The same, where what stands at the address is asked once more. -/
theorem RowsT.getA {P : Program} {T E : TypeId} (hr : RowB P T E 1 encW fun r => r.1) (h1E : oneB P E = true) (h : RowsT w v l) (hk : Kept [] w w') {i : Nat} (hi : i < l.length) {q : IntKind} {K : Value → Value → Prop}
    (k : ∀ (A : Addr) u, SlT w encB u (l.getD i []) → (∀ w'', Kept [] w w'' → w''.cell? A = some u) → K (.pointer (some A)) u) :
    xP P (sIA T v (.int q i)) fun a => xR P (sLoad E a) w' fun u => K a u := by
  obtain ⟨rs, h1, h2, rfl⟩ := h
  rw [List.length_map] at hi
  obtain ⟨b, o, c, rfl, hat⟩ := h1.elem hr.len hi
  rw [xP_IAn hr.sl hr.size hi, Nat.mul_one]
  rw [Nat.mul_one] at hat
  have hc : ∀ w'', Kept [] w w'' → w''.cell? ⟨b, o + i, none⟩ = some (rs[i]).1 := fun w'' hk' => at_one (hat.kept hk' (by simp))
  refine (ld1 h1E (hc w' hk)).2 (k _ _ ?_ hc)
  rw [getD_lt (by rw [List.length_map]; exact hi), List.getElem_map]
  exact h2 _ (List.getElem_mem hi)
/-- s[:j] -/
theorem RowsT.upto {j : Nat} {a : Option Addr} {n c : Nat} (h : RowsT w (.slice a n c) l) (hj : j ≤ l.length) : RowsT w (.slice (if c = 0 then a else a.map (·.add (0 * 1))) j c) (l.take j) := by
  obtain ⟨rs, h1, h2, rfl⟩ := h
  obtain ⟨a', c', e, hc, hr⟩ := h1
  cases e
  rw [List.length_map] at hj
  exact ⟨rs.take j, SlT.upto (fun _ => rfl) ⟨a, c, rfl, hc, hr⟩ hj, fun r hr => h2 r (List.mem_of_mem_take hr), by rw [List.map_take]⟩
end

/-! ## Lists of rows of one's own -/
structure Rq where
  v : Value
  F : List Nat
  x : List UInt8
def Rq.Ok (E : TypeId) (w : World) (r : Rq) : Prop := Own w E 1 r.v r.x.length (r.x.flatMap encB) r.F
section
variable {P : Program} {T LE E : TypeId} {w0 w w' : World} {v : Value} {rs : List Rq} {G M : List Nat} {r : Rq}
theorem Rq.Ok.kept (h : r.Ok E w) (hk : Kept M w w') (hd : ∀ g ∈ r.F, g ∉ M) : r.Ok E w' := Own.kept h hk hd
theorem Rq.Ok.kept0 (h : r.Ok E w) (hk : Kept [] w w') : r.Ok E w' := h.kept hk (by simp)
theorem Rq.Ok.slT (h : r.Ok E w) : SlT w encB r.v r.x := Own.slT h encB_len (by omega)
theorem Rq.Ok.one (h : r.Ok E w) : r.v.oneCell' = true := Own.oneC h
theorem Rq.Ok.lt (h : r.Ok E w) : ∀ g ∈ r.F, g < w.heap.size := Own.lt h
structure Out (LE E : TypeId) (w0 w : World) (v : Value) (rs : List Rq) (G : List Nat) : Prop where
  own : Own w LE 1 v rs.length (rs.map Rq.v) G
  fresh : ∀ g ∈ G, w0.heap.size ≤ g
  ok : ∀ r ∈ rs, r.Ok E w
  rf : ∀ r ∈ rs, ∀ g ∈ r.F, w0.heap.size ≤ g ∧ g ∉ G
  nd : (rs.flatMap Rq.F).Nodup
theorem out_nil (w0 w : World) : Out LE E w0 w (.slice none 0 0) [] [] := ⟨own_nil _ _ _, by simp, by simp, by simp, by simp⟩
theorem Out.kept (h : Out LE E w0 w v rs G) (hk : Kept M w w') (hG : ∀ g ∈ G, g ∉ M) (hr : ∀ r ∈ rs, ∀ g ∈ r.F, g ∉ M) : Out LE E w0 w' v rs G :=
  ⟨h.own.kept hk hG, h.fresh, fun r hm => (h.ok r hm).kept hk (hr r hm), h.rf, h.nd⟩
theorem Out.kept0 (h : Out LE E w0 w v rs G) (hk : Kept [] w w') : Out LE E w0 w' v rs G := h.kept hk (by simp) (by simp)
theorem map_flat (rs : List Rq) : rs.map Rq.v = (rs.map fun r => (r.v, r.x)).flatMap encW := by
  induction rs with
  | nil => rfl
  | cons r rs ih => rw [List.map_cons, List.map_cons, List.flatMap_cons, ← ih]; rfl
theorem Out.rows (h : Out LE E w0 w v rs G) : RowsT w v (rs.map Rq.x) := by
  refine ⟨rs.map fun r => (r.v, r.x), ?_, fun q hq => ?_, by rw [List.map_map]; rfl⟩
  · have := h.own
    rw [map_flat] at this
    exact Own.slT (sz := 1) (l := rs.map fun r => (r.v, r.x)) (enc := encW) (by rw [List.length_map]; exact this) (fun _ => rfl) (by omega)
  · obtain ⟨r, hr, rfl⟩ := List.mem_map.1 hq
    exact (h.ok r hr).slT
theorem xE_one {bytes : Nat} {z u : Value} {K : Value → World → Prop} (he : ElemB P T E 1 bytes z) (h1 : u.oneCell' = true) (k : ∀ w', At w' w.heap.size 0 [u] → Kept [] w w' → w'.heap.size = w.heap.size + 1 → K (.slice (some ⟨w.heap.size, 0, none⟩) 1 1) w') : xE P (sBuildSlice T 1 #[(0, u)]) w K := by
  refine xE_buildSlice he [u] rfl rfl (by intro x hx; simp at hx; subst hx; rw [cells_one h1]; rfl) (by omega) (by omega) fun w' hb hk hz => k w' ?_ hk hz
  have := hb.at
  simpa [cells_one h1] using this
theorem Out.app {bytes : Nat} {z : Value} {K : Value → World → Prop} (he : ElemB P T LE 1 bytes z) (h : Out LE E w0 w v rs G) (hr : r.Ok E w) (hf : ∀ g ∈ r.F, w0.heap.size ≤ g ∧ g ∉ G ∧ ∀ q ∈ rs, g ∉ q.F) {b o c : Nat} (hat : At w b o [r.v])
    (hl : rs.length + 1 ≤ 1000000) (hb : 1000000 * bytes ≤ 140737488355328) (hw : w0.heap.size ≤ w.heap.size)
    (k : ∀ u w' G', Out LE E w0 w' u (rs ++ [r]) G' → Kept G w w' → (∀ g ∈ G', g ∈ G ∨ w.heap.size ≤ g) → K u w') : xE P (sB .append #[T, T] #[v, .slice (some ⟨b, o, none⟩) 1 c]) w K := by
  refine xE_append (m := 1) he h.own hat rfl (by intro u hu; simp at hu; subst hu; exact hr.one) (Nat.le_trans (Nat.mul_le_mul_right _ hl) hb) (by unfold maxLen; omega) (by omega) fun u w' G' ho hk hG' _ => ?_
  have hmem : ∀ q ∈ rs ++ [r], q.Ok E w ∧ (∀ g ∈ q.F, w0.heap.size ≤ g ∧ g ∉ G) := fun q hq => by
    rcases List.mem_append.1 hq with hq | hq
    · exact ⟨h.ok q hq, h.rf q hq⟩
    · simp at hq
      subst hq
      exact ⟨hr, fun g hg => ⟨(hf g hg).1, (hf g hg).2.1⟩⟩
  refine k u w' G' ⟨?_, fun g hg => (hG' g hg).elim (h.fresh g) (fun h2 => Nat.le_trans hw h2), fun q hq => (hmem q hq).1.kept hk (fun g hg => ((hmem q hq).2 g hg).2), fun q hq g hg => ⟨((hmem q hq).2 g hg).1, fun hm => ?_⟩, ?_⟩ hk hG'
  · rw [List.length_append, List.map_append]
    exact ho
  · rcases hG' g hm with h1 | h1
    · exact ((hmem q hq).2 g hg).2 h1
    · have := (hmem q hq).1.lt g hg
      omega
  · rw [List.flatMap_append]
    refine List.nodup_append.2 ⟨h.nd, by simpa using Own.nd hr, fun a ha b hb e => ?_⟩
    simp at hb
    obtain ⟨q, hq, hqa⟩ := List.mem_flatMap.1 ha
    exact (hf b hb).2.2 q hq (e ▸ hqa)
end
end Go.X
