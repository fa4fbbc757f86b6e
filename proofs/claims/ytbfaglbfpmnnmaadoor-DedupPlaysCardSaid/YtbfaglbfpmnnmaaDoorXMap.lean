import Derived.Test.YtbfaglbfpmnnmaaDoorXLib3
import Derived.MapKept
import Derived.ChangeMaps5
namespace Go.X
set_option linter.unusedSimpArgs false
set_option linter.unusedVariables false
open Go Go.RowKit

/-! ## Maps of int keys, of one's own -/
section
variable {α : Type} {val : α → Value} {P : Program} {w w' : World} {T : TypeId} {r : Nat}
def mget : List (Int × α) → Int → Option α
  | [], _ => none
  | p :: l, k => if p.1 = k then some p.2 else mget l k
def mpos : List (Int × α) → Int → Option (Nat × α)
  | [], _ => none
  | p :: l, k => if p.1 = k then some (0, p.2) else (mpos l k).map fun j => (j.1 + 1, j.2)
def mset : List (Int × α) → Int → α → List (Int × α)
  | [], k, v => [(k, v)]
  | p :: l, k, v => if p.1 = k then (k, v) :: l else p :: mset l k v
theorem mget_pos (l : List (Int × α)) (k : Int) : mget l k = (mpos l k).map (·.2) := by
  induction l with
  | nil => rfl
  | cons p l ih =>
    simp only [mget, mpos]
    split
    · rfl
    · rw [ih]; cases mpos l k <;> rfl
theorem mpos_get {l : List (Int × α)} {k : Int} {j : Nat} {v : α} (h : mpos l k = some (j, v)) : l[j]? = some (k, v) := by
  induction l generalizing j with
  | nil => cases h
  | cons p l ih =>
    simp only [mpos] at h
    split at h
    · rename_i hp
      cases h
      simp [← hp]
    · cases hm : mpos l k with
      | none => rw [hm] at h; cases h
      | some q => rw [hm] at h; cases h; simpa using ih hm
theorem mset_pos {l : List (Int × α)} {k : Int} {j : Nat} {u v : α} (h : mpos l k = some (j, u)) : mset l k v = l.set j (k, v) := by
  induction l generalizing j with
  | nil => cases h
  | cons p l ih =>
    simp only [mpos] at h
    simp only [mset]
    split at h
    · rename_i hp
      cases h
      simp [hp]
    · rename_i hp
      rw [if_neg hp]
      cases hm : mpos l k with
      | none => rw [hm] at h; cases h
      | some q => rw [hm] at h; cases h; rw [ih hm]; rfl
theorem mset_none {l : List (Int × α)} {k : Int} {v : α} (h : mpos l k = none) : mset l k v = l ++ [(k, v)] ∧ k ∉ l.map (·.1) := by
  induction l with
  | nil => exact ⟨rfl, by simp⟩
  | cons p l ih =>
    simp only [mpos] at h
    simp only [mset]
    split at h
    · cases h
    · rename_i hp
      rw [if_neg hp]
      cases hm : mpos l k with
      | none =>
        obtain ⟨h1, h2⟩ := ih hm
        refine ⟨by rw [h1]; rfl, ?_⟩
        rw [List.map_cons, List.mem_cons, not_or]
        exact ⟨fun h => hp h.symm, h2⟩
      | some q => rw [hm] at h; cases h
theorem mget_set (l : List (Int × α)) (k k' : Int) (v : α) : mget (mset l k v) k' = if k = k' then some v else mget l k' := by
  induction l with
  | nil => rfl
  | cons p l ih =>
    simp only [mset, mget]
    by_cases hp : p.1 = k
    · rw [if_pos hp]
      simp only [mget]
      by_cases hk : k = k'
      · rw [if_pos hk, if_pos hk]
      · rw [if_neg hk, if_neg hk, if_neg (by omega)]
    · rw [if_neg hp]
      simp only [mget]
      rw [ih]
      by_cases hk : k = k'
      · rw [if_pos hk, if_pos hk, if_neg (by omega)]
      · rw [if_neg hk, if_neg hk]
theorem mset_len (l : List (Int × α)) (k : Int) (v : α) : (mset l k v).length = if (mget l k).isSome then l.length else l.length + 1 := by
  rw [mget_pos]
  cases h : mpos l k with
  | none => rw [(mset_none h).1]; simp
  | some q => obtain ⟨j, u⟩ := q; rw [mset_pos h]; simp
theorem mset_nodup {l : List (Int × α)} {k : Int} {v : α} (h : (l.map (·.1)).Nodup) : ((mset l k v).map (·.1)).Nodup := by
  cases hm : mpos l k with
  | none =>
    obtain ⟨h1, h2⟩ := mset_none (v := v) hm
    rw [h1, List.map_append]
    exact List.nodup_append.2 ⟨h, by simp, fun a ha b hb => by
      simp at hb; subst hb
      intro he; subst he
      exact h2 ha⟩
  | some q =>
    obtain ⟨j, u⟩ := q
    rw [mset_pos hm, List.map_set]
    have := mpos_get hm
    have e : (l.map (·.1)).set j k = l.map (·.1) := by
      have h1 : (l.map (·.1))[j]? = some k := by rw [List.getElem?_map, this]; rfl
      obtain ⟨h2, h3⟩ := List.getElem?_eq_some_iff.1 h1
      rw [← h3]; exact List.set_getElem_self h2
    rw [e]; exact h

def kvE (e : MapEntry) : Value × Value := (e.key, e.val)
def kvP (val : α → Value) (p : Int × α) : Value × Value := (.int .i64 p.1, val p.2)
/-- Block r is a map of int keys that reads as the list. -/
def MapOf (w : World) (r : Nat) (val : α → Value) (l : List (Int × α)) : Prop :=
  ∃ es clock, w.heap[r]? = some (.map es clock) ∧ (∀ x ∈ es.toList, x.born < clock) ∧ (es.toList.map (·.born)).Nodup ∧ es.toList.map kvE = l.map (kvP val) ∧ (l.map (·.1)).Nodup
theorem MapOf.lt {l : List (Int × α)} (h : MapOf w r val l) : r < w.heap.size := by
  obtain ⟨es, c, h, _⟩ := h
  exact (Array.getElem?_eq_some_iff.1 h).1
theorem MapOf.kept {l : List (Int × α)} {M : List Nat} (h : MapOf w r val l) (hk : Kept M w w') (hr : r ∉ M) : MapOf w' r val l := by
  have hlt := h.lt
  obtain ⟨es, c, h, hh⟩ := h
  exact ⟨es, c, (hk.block r hlt hr).trans h, hh⟩
theorem MapOf.drew {l : List (Int × α)} (h : MapOf w r val l) : MapOf w.drew r val l := h
theorem MapOf.len {l : List (Int × α)} {es : Array MapEntry} (h : es.toList.map kvE = l.map (kvP val)) : es.size = l.length := by
  have := congrArg List.length h
  simpa using this

theorem findNow_int {q : IntKind} (k : Int) : ∀ (es : List MapEntry) (l : List (Int × α)) (i : Nat), es.map kvE = l.map (kvP val) →
    Instr.findNow (.int q) (.int .i64 k) es i = some ((mpos l k).map fun j => (i + j.1, val j.2))
  | [], [], i, _ => rfl
  | [], p :: l, i, h => by cases h
  | e :: es, [], i, h => by cases h
  | e :: es, p :: l, i, h => by
    simp only [List.map_cons, List.cons.injEq] at h
    obtain ⟨h1, h2⟩ := h
    have hk : e.key = .int .i64 p.1 := congrArg (·.1) h1
    have hv : e.val = val p.2 := congrArg (·.2) h1
    simp only [Instr.findNow, hk, Instr.sameNow, if_true, mpos]
    by_cases hp : p.1 = k
    · subst hp
      simp [hv]
    · have : (k == p.1) = false := by simp; omega
      rw [this, if_neg hp]
      simp only
      rw [findNow_int k es l (i + 1) h2]
      cases mpos l k with
      | none => rfl
      | some j => simp; omega

def mapB (P : Program) (T E : TypeId) : Prop := ∃ k, P.underlying T = some (.map k E) ∧ P.underlying k = some (.int .i64)
section
variable {E : TypeId} {l : List (Int × α)}
theorem checkKey_int {k : TypeId} {n : Int} {b : Bool} (h : P.underlying k = some (.int .i64)) : (Instr.checkKey b 10000 k (.int .i64 n)).run P w = .ok () w := by
  have e : ∀ d, (Instr.checkKey b (d + 1) k (.int .i64 n)).run P w = .ok () w := fun d => by
    simp only [Instr.checkKey, Sem.run_bind, run_underlying h, Result.andThen_ok]
    rfl
  exact e 9999
theorem lookup_run (hT : mapB P T E) (h : MapOf w r val l) {z : Value} (hz : zeroB P E z) (k : Int) (ok : Bool) :
    (Instr.lookup T (.map (some r)) (.int .i64 k) ok).run P w = .ok (if ok then .tuple #[((mget l k).map val).getD z, .bool (mget l k).isSome] else ((mget l k).map val).getD z) w := by
  obtain ⟨kt, h1, h2⟩ := hT
  obtain ⟨es, c, hb, _, _, hm, _⟩ := h
  have hf := findNow_int (q := .i64) k es.toList l 0 hm
  have hzr := zero_run (w := w) hz
  rw [mget_pos]
  cases hp : mpos l k with
  | none =>
    rw [hp] at hf
    cases ok <;> simp [Instr.lookup, run_underlying h1, MapKept.run_getObj_map hb, checkKey_int h2, Instr.findKey, run_underlying h2, hf, hzr, Result.andThen]
  | some j =>
    rw [hp] at hf
    cases ok <;> simp [Instr.lookup, run_underlying h1, MapKept.run_getObj_map hb, checkKey_int h2, Instr.findKey, run_underlying h2, hf, Result.andThen]
theorem xR_lookup {K : Value → Prop} (hT : mapB P T E) (h : MapOf w r val l) {z : Value} (hz : zeroB P E z) {k : Int} :
    xR P (sLookup T (.map (some r)) (.int .i64 k) false) w K ↔ K (((mget l k).map val).getD z) := xR_of (by
  unfold sLookup
  refine run_sB P _ w ?_
  rw [lookup_run hT h hz]; rfl)
theorem xR_lookupOk {K : Value → Prop} (hT : mapB P T E) (h : MapOf w r val l) {z : Value} (hz : zeroB P E z) {k : Int} :
    xR P (sLookup T (.map (some r)) (.int .i64 k) true) w K ↔ K (.tuple #[((mget l k).map val).getD z, .bool (mget l k).isSome]) := xR_of (by
  unfold sLookup
  refine run_sB P _ w ?_
  rw [lookup_run hT h hz]; rfl)
theorem xStill_lookup {A : Prop} (hT : mapB P T E) (h : MapOf w r val l) {z : Value} (hz : zeroB P E z) {k : Int} :
    xStill P (sLookup T (.map (some r)) (.int .i64 k) false) (((mget l k).map val).getD z) w A ↔ A := xStill_of (by
  unfold sLookup
  refine run_sB P _ w ?_
  rw [lookup_run hT h hz]; rfl)
theorem xR_lenM {K : Value → Prop} (hT : mapB P T E) (h : MapOf w r val l) : xR P (sB .len #[T] #[.map (some r)]) w K ↔ K (.int .i64 l.length) := xR_of (by
  obtain ⟨kt, h1, h2⟩ := hT
  obtain ⟨es, c, hb, _, _, hm, _⟩ := h
  unfold sB
  simp [builtin, Builtin.len_, run_underlying h1, MapKept.run_getObj_map hb, goInt, MapOf.len hm])
theorem mapOf_new (w : World) (val : α → Value) : MapOf (w.alloc (.map #[] 0)) w.heap.size val [] := ⟨#[], 0, heap_alloc_new w _, by simp, by simp, rfl, by simp⟩
theorem xE_makeMap {K : Value → World → Prop} (hT : mapB P T E) {res : Option Value} (hr : res = none ∨ ∃ k n, res = some (.int k n)) (k : ∀ w', MapOf w' w.heap.size val [] → Kept [] w w' → w'.heap.size = w.heap.size + 1 → K (.map (some w.heap.size)) w') : xE P (sMakeMap T res) w K := by
  obtain ⟨kt, h1, h2⟩ := hT
  refine (xE_of (v := .map (some w.heap.size)) (w' := w.alloc (.map #[] 0)) ?_).2 (k _ (mapOf_new w val) (kept_alloc _ _ _) (by simp))
  unfold sMakeMap
  refine run_sB P _ w ?_
  rcases hr with rfl | ⟨q, n, rfl⟩
  · simp [Instr.makeMap]
  · simp [Instr.makeMap, run_underlying h1, asInt, asIntOf]
theorem kept_setBlock {b : Nat} {es : Array MapEntry} {c : Nat} (hb : w.heap[b]? = some (.map es c)) (o : Obj) : Kept [b] w { w with heap := w.heap.setIfInBounds b o } :=
  ⟨rfl, rfl, rfl, by simp, fun k _ hn => ChangeMaps.heap_setBlock_other hb o (by simpa using hn)⟩
theorem update_run (hT : mapB P T E) (h : MapOf w r val l) (k : Int) (v : α) : ∃ w', (Instr.mapUpdate T (.map (some r)) (.int .i64 k) (val v)).run P w = .ok () w' ∧ MapOf w' r val (mset l k v) ∧ Kept [r] w w' ∧ w'.heap.size = w.heap.size := by
  obtain ⟨kt, h1, h2⟩ := hT
  obtain ⟨es, c, hb, hbo, hnd, hm, hkn⟩ := h
  have hf := findNow_int (q := .i64) k es.toList l 0 hm
  have hlen := MapOf.len hm
  cases hp : mpos l k with
  | none =>
    rw [hp] at hf
    refine ⟨_, by simp [Instr.mapUpdate, run_underlying h1, MapKept.run_getObj_map hb, checkKey_int h2, Instr.findKey, run_underlying h2, hf, MapKept.run_setObj_map _ hb, Result.andThen]; rfl, ?_, kept_setBlock hb _, by simp⟩
    refine ⟨es.push { key := .int .i64 k, val := val v, born := c }, c + 1, ChangeMaps.heap_setBlock_same hb _, ?_, ?_, ?_, mset_nodup hkn⟩
    · intro x hx
      simp only [Array.toList_push, List.mem_append, List.mem_singleton] at hx
      rcases hx with hx | rfl
      · exact Nat.lt_succ_of_lt (hbo x hx)
      · exact Nat.lt_succ_self _
    · simp only [Array.toList_push, List.map_append, List.map_cons, List.map_nil]
      refine List.nodup_append.2 ⟨hnd, by simp, ?_⟩
      intro a ha b hb'
      simp only [List.mem_singleton] at hb'
      subst hb'
      obtain ⟨x, hx, rfl⟩ := List.mem_map.1 ha
      exact Nat.ne_of_lt (hbo x hx)
    · rw [(mset_none hp).1]
      simp [hm, kvE, kvP]
  | some q =>
    obtain ⟨j, u⟩ := q
    rw [hp] at hf
    simp only [Option.map_some, Nat.zero_add] at hf
    have hj := mpos_get hp
    have hjl : j < es.size := by rw [hlen]; exact (List.getElem?_eq_some_iff.1 hj).1
    have hej : es[j].key = .int .i64 k := by
      have h3 : (es.toList.map kvE)[j]? = some (kvP val (k, u)) := by rw [hm, List.getElem?_map, hj]; rfl
      rw [List.getElem?_map] at h3
      have h4 : es.toList[j]? = some es[j] := by simp
      rw [h4] at h3
      simp [kvE, kvP] at h3
      exact h3.1
    have hst : (Instr.keyThatStays (.int .i64 k) (.int .i64 k)).run P w = .ok (.int .i64 k) w := by
      simp [Instr.keyThatStays, Instr.sameBits]
    refine ⟨_, by simp [Instr.mapUpdate, run_underlying h1, MapKept.run_getObj_map hb, checkKey_int h2, Instr.findKey, run_underlying h2, hf, hjl, hej, hst, MapKept.run_setObj_map _ hb, Result.andThen]; rfl, ?_, kept_setBlock hb _, by simp⟩
    refine ⟨_, c, ChangeMaps.heap_setBlock_same hb _, ?_, ?_, ?_, mset_nodup hkn⟩
    · intro x hx
      simp only [Array.toList_modify] at hx
      obtain ⟨i, hi, rfl⟩ := List.getElem_of_mem hx
      have hi' : i < es.toList.length := by simpa using hi
      rw [List.getElem_modify]
      split
      · exact hbo es.toList[i] (List.getElem_mem hi')
      · exact hbo es.toList[i] (List.getElem_mem hi')
    · have : (es.modify j fun e => { e with key := .int .i64 k, val := val v }).toList.map (·.born) = es.toList.map (·.born) := by
        apply List.ext_getElem?
        intro i
        simp only [List.getElem?_map, Array.getElem?_toList, Array.getElem?_modify]
        split
        · cases es[i]? <;> rfl
        · rfl
      rw [this]
      exact hnd
    · rw [mset_pos hp]
      have : (es.modify j fun e => { e with key := .int .i64 k, val := val v }).toList.map kvE = (es.toList.map kvE).set j (kvP val (k, v)) := by
        apply List.ext_getElem?
        intro i
        simp only [List.getElem?_map, Array.getElem?_toList, Array.getElem?_modify, List.getElem?_set, List.length_map, Array.length_toList]
        split
        · rename_i hij; subst hij
          simp [hjl, kvE, kvP]
        · rfl
      rw [this, hm, List.map_set]
theorem xE_mapUpdate {K : Value → World → Prop} (hT : mapB P T E) (h : MapOf w r val l) {k : Int} {v : α} {u : Value} (hu : u = val v)
    (kk : ∀ w', MapOf w' r val (mset l k v) → Kept [r] w w' → w'.heap.size = w.heap.size → K undef w') : xE P (sMapUpdate T (.map (some r)) (.int .i64 k) u) w K := by
  subst hu
  obtain ⟨w', hr, h1, h2, h3⟩ := update_run hT h k v
  refine (xE_skip (w' := w') ?_).2 (kk w' h1 h2 h3)
  unfold sMapUpdate
  simp [hr]
end
end
end Go.X
