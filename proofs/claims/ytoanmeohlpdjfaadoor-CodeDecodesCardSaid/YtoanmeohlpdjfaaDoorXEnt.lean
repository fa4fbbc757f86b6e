import Derived.Test.YtoanmeohlpdjfaaDoorXB
import Derived.Laws.IdiomRangeMap
namespace Go.X
set_option linter.unusedSimpArgs false
set_option linter.unusedVariables false
open Go Go.RowKit

/-! ## An entry of a map, and its value later: 'a, m[k] = ..' -/
def sMapEntry (t : TypeId) (m k : Value) : Sem Next := do pure (.value (← Instr.mapEntry t m k))
def sEntryStore (t : TypeId) (m s v : Value) : Sem Next := do Instr.entryStore t m s v; pure .skip
section
variable {α : Type} {val : α → Value} {P : Program} {w w' : World} {T E : TypeId} {r : Nat} {l : List (Int × α)}
theorem findIdx_born : ∀ (es : List MapEntry) (j : Nat) (e : MapEntry), (es.map (·.born)).Nodup → es[j]? = some e → es.findIdx? (fun x => ((x.born : Nat) : Int) == ((e.born : Nat) : Int)) = some j
  | [], j, e, _, h => by simp at h
  | x :: es, 0, e, _, h => by simp at h; subst h; simp [List.findIdx?_cons]
  | x :: es, j + 1, e, hn, h => by
    have hn' : x.born ∉ es.map (·.born) ∧ (es.map (·.born)).Nodup := List.nodup_cons.1 hn
    have h : es[j]? = some e := by simpa using h
    have hx : (((x.born : Nat) : Int) == ((e.born : Nat) : Int)) = false := by
      cases hc : (((x.born : Nat) : Int) == ((e.born : Nat) : Int)) with
      | false => rfl
      | true =>
        have he : x.born = e.born := by have := beq_iff_eq.1 hc; omega
        exact absurd (List.mem_map.2 ⟨e, List.mem_of_getElem? h, he.symm⟩) hn'.1
    rw [List.findIdx?_cons, hx]
    simp [findIdx_born es j e hn'.2 h]
theorem entryStore_run {es : Array MapEntry} {c j : Nat} {e : MapEntry} {v : Value} (hb : w.heap[r]? = some (.map es c)) (hn : (es.toList.map (·.born)).Nodup) (he : es.toList[j]? = some e) :
    (Instr.entryStore T (.map (some r)) (goInt e.born) v).run P w = .ok () { w with heap := w.heap.setIfInBounds r (.map (es.modify j fun x => { x with val := v }) c) } := by
  have hf := findIdx_born es.toList j e hn he
  have hf : es.findIdx? (fun x => ((x.born : Nat) : Int) == ((e.born : Nat) : Int)) = some j := by rw [← List.findIdx?_toArray] at hf; simpa using hf
  simp [Instr.entryStore, MapKept.run_getObj_map hb, asInt, asIntOf, goInt, hf, MapKept.run_setObj_map _ hb, Result.andThen]
theorem xE_mapEntry {K : Value → World → Prop} (hT : mapB P T E) (h : MapOf w r val l) {z : Value} (hz : zeroB P E z) {k : Int} {v : α} {u : Value} (hu : u = val v)
    (kk : ∀ w', MapOf w' r val (mset l k v) → Kept [r] w w' → w'.heap.size = w.heap.size → K undef w') :
    xE P (sMapEntry T (.map (some r)) (.int .i64 k)) w fun c w1 => xP P (sExtract c 1) fun st => xE P (sEntryStore T (.map (some r)) st u) w1 K := by
  subst hu
  obtain ⟨kt, h1, h2⟩ := hT
  obtain ⟨es, c, hb, hbo, hnd, hm, hkn⟩ := h
  have hf := findNow_int (q := .i64) k es.toList l 0 hm
  have hlen := MapOf.len hm
  have hzr : ∀ w, (zeroValue E).run P w = .ok z w := fun w => zero_run (w := w) hz
  have hset2 : ∀ (w : World) (o1 o2 : Obj) (hb : ∃ es c, w.heap[r]? = some (.map es c)), ({ ({ w with heap := w.heap.setIfInBounds r o1 } : World) with heap := ({ w with heap := w.heap.setIfInBounds r o1 } : World).heap.setIfInBounds r o2 } : World) = { w with heap := w.heap.setIfInBounds r o2 } := by
    intro w o1 o2 _
    simp
  -- the end that both ways share
  have fin : ∀ (es1 : Array MapEntry) (c1 j : Nat) (e : MapEntry) (v0 : Value), (es1.toList.map (·.born)).Nodup → es1.toList[j]? = some e →
      (Instr.mapEntry T (.map (some r)) (.int .i64 k)).run P w = .ok (.tuple #[v0, goInt e.born]) { w with heap := w.heap.setIfInBounds r (.map es1 c1) } →
      (∀ w', w'.heap[r]? = some (.map (es1.modify j fun x => { x with val := val v }) c1) → MapOf w' r val (mset l k v)) →
      xE P (sMapEntry T (.map (some r)) (.int .i64 k)) w fun c w1 => xP P (sExtract c 1) fun st => xE P (sEntryStore T (.map (some r)) st (val v)) w1 K := by
    intro es1 c1 j e v0 hn1 he1 hrun hmap
    refine (xE_of (v := .tuple #[v0, goInt e.born]) (w' := { w with heap := w.heap.setIfInBounds r (.map es1 c1) }) ?_).2 ?_
    · unfold sMapEntry
      exact run_sB P _ w hrun
    refine xP_ex1.2 ?_
    have hb1 : ({ w with heap := w.heap.setIfInBounds r (.map es1 c1) } : World).heap[r]? = some (.map es1 c1) := ChangeMaps.heap_setBlock_same hb _
    have hst := entryStore_run (P := P) (T := T) (v := val v) hb1 hn1 he1
    refine (xE_skip (w' := { w with heap := w.heap.setIfInBounds r (.map (es1.modify j fun x => { x with val := val v }) c1) }) ?_).2 (kk _ (hmap _ (ChangeMaps.heap_setBlock_same hb _)) (kept_setBlock hb _) (by simp))
    unfold sEntryStore
    simp only [Sem.run_bind, hst, Result.andThen_ok]
    simp
  cases hp : mpos l k with
  | none =>
    rw [hp] at hf
    have hfresh : c ∉ es.toList.map (·.born) := fun hm => by
      obtain ⟨x, hx, hxc⟩ := List.mem_map.1 hm
      have := hbo x hx
      omega
    refine fin (es.push { key := .int .i64 k, val := z, born := c }) (c + 1) es.size { key := .int .i64 k, val := z, born := c } z ?_ (by simp) ?_ ?_
    · simp only [Array.toList_push, List.map_append, List.map_cons, List.map_nil]
      refine List.nodup_append.2 ⟨hnd, by simp, ?_⟩
      intro a ha b hb'
      simp only [List.mem_singleton] at hb'
      subst hb'
      intro hab
      subst hab
      exact hfresh ha
    · simp [Instr.mapEntry, run_underlying h1, MapKept.run_getObj_map hb, checkKey_int h2, Instr.findKey, run_underlying h2, hf, hzr, MapKept.run_setObj_map _ hb, Result.andThen]
    · intro w' hb'
      refine ⟨_, c + 1, hb', ?_, ?_, ?_, mset_nodup hkn⟩
      · intro x hx
        simp only [Array.toList_modify, Array.toList_push] at hx
        obtain ⟨i, hi, rfl⟩ := List.getElem_of_mem hx
        rw [List.getElem_modify]
        simp only [List.length_modify, List.length_append, List.length_singleton, Array.length_toList] at hi
        have hborn : ∀ i (hi : i < (es.toList ++ [({ key := .int .i64 k, val := z, born := c } : MapEntry)]).length), ((es.toList ++ [({ key := .int .i64 k, val := z, born := c } : MapEntry)])[i]).born < c + 1 := by
          intro i hi
          rcases List.mem_append.1 (List.getElem_mem hi) with hm | hm
          · exact Nat.lt_succ_of_lt (hbo _ hm)
          · rw [List.mem_singleton.1 hm]; exact Nat.lt_succ_self _
        split
        · exact hborn i _
        · exact hborn i _
      · have : ((es.push { key := .int .i64 k, val := z, born := c }).modify es.size fun x => { x with val := val v }).toList.map (·.born) = (es.push { key := .int .i64 k, val := z, born := c }).toList.map (·.born) := by
          apply List.ext_getElem?
          intro i
          simp only [List.getElem?_map, Array.getElem?_toList, Array.getElem?_modify]
          split
          · cases (es.push { key := .int .i64 k, val := z, born := c })[i]? <;> rfl
          · rfl
        rw [this]
        simp only [Array.toList_push, List.map_append, List.map_cons, List.map_nil]
        refine List.nodup_append.2 ⟨hnd, by simp, ?_⟩
        intro a ha b hb'
        simp only [List.mem_singleton] at hb'
        subst hb'
        intro hab
        subst hab
        exact hfresh ha
      · rw [(mset_none hp).1]
        have : ((es.push { key := .int .i64 k, val := z, born := c }).modify es.size fun x => { x with val := val v }).toList = es.toList ++ [{ key := .int .i64 k, val := val v, born := c }] := by
          apply List.ext_getElem?
          intro i
          simp only [Array.getElem?_toList, Array.getElem?_modify, Array.getElem?_push, List.getElem?_append, Array.length_toList]
          by_cases hi : es.size = i
          · subst hi
            simp
          · rw [if_neg hi]
            rcases Nat.lt_or_ge i es.size with hlt | hge
            · rw [if_neg (by omega)]; simp [hlt]
            · rw [if_neg (by omega)]
              have : ¬ i < es.size := by omega
              simp [this]
              omega
        rw [this]
        simp [hm, kvE, kvP]
  | some q =>
    obtain ⟨j, u⟩ := q
    rw [hp] at hf
    simp only [Option.map_some, Nat.zero_add] at hf
    have hj := mpos_get hp
    have hjl : j < es.size := by rw [hlen]; exact (List.getElem?_eq_some_iff.1 hj).1
    have hej : es[j].key = .int .i64 k := by
      have h3 : (es.toList.map kvE)[j]? = some (kvP val (k, u)) := by rw [hm, List.getElem?_map, hj]; rfl
      rw [List.getElem?_map] at h3
      have h4 : es.toList[j]? = some es[j] := by simp
      rw [h4] at h3
      simp [kvE, kvP] at h3
      exact h3.1
    have hst : (Instr.keyThatStays (.int .i64 k) (.int .i64 k)).run P w = .ok (.int .i64 k) w := by
      simp [Instr.keyThatStays, Instr.sameBits]
    have hsame : (es.modify j fun e => { e with key := .int .i64 k }) = es := by
      apply Array.ext'
      apply List.ext_getElem?
      intro i
      simp only [Array.getElem?_toList, Array.getElem?_modify]
      split
      · rename_i hij
        subst hij
        rw [Array.getElem?_eq_getElem hjl]
        simp only [Option.map_some]
        rw [← hej]
      · rfl
    refine fin es c j es[j] (val u) hnd (by simp) ?_ ?_
    · simp [Instr.mapEntry, run_underlying h1, MapKept.run_getObj_map hb, checkKey_int h2, Instr.findKey, run_underlying h2, hf, hjl, hej, hst, hsame, MapKept.run_setObj_map _ hb, Result.andThen]
    · intro w' hb'
      refine ⟨_, c, hb', ?_, ?_, ?_, mset_nodup hkn⟩
      · intro x hx
        simp only [Array.toList_modify] at hx
        obtain ⟨i, hi, rfl⟩ := List.getElem_of_mem hx
        have hi' : i < es.toList.length := by simpa using hi
        rw [List.getElem_modify]
        split
        · exact hbo es.toList[i] (List.getElem_mem hi')
        · exact hbo es.toList[i] (List.getElem_mem hi')
      · have : (es.modify j fun e => { e with val := val v }).toList.map (·.born) = es.toList.map (·.born) := by
          apply List.ext_getElem?
          intro i
          simp only [List.getElem?_map, Array.getElem?_toList, Array.getElem?_modify]
          split
          · cases es[i]? <;> rfl
          · rfl
        rw [this]
        exact hnd
      · rw [mset_pos hp]
        have : (es.modify j fun e => { e with val := val v }).toList.map kvE = (es.toList.map kvE).set j (kvP val (k, v)) := by
          apply List.ext_getElem?
          intro i
          simp only [List.getElem?_map, Array.getElem?_toList, Array.getElem?_modify, List.getElem?_set, List.length_map, Array.length_toList]
          split
          · rename_i hij; subst hij
            simp [hjl, kvE, kvP, hej]
          · rfl
        rw [this, hm, List.map_set]

/-! ## 'for k := range m' -/
/-- Block r is an iterator over the map in block m, that has not been written since; done: the keys that it has handed out, the last one first. -/
def IterOf (w : World) (r m : Nat) (val : α → Value) (l : List (Int × α)) (done : List Int) : Prop :=
  ∃ (es : Array MapEntry) (clock : Nat) (seen : Array Nat) (ds : List MapEntry), w.heap[m]? = some (.map es clock) ∧ (∀ x ∈ es.toList, x.born < clock) ∧ (es.toList.map (·.born)).Nodup ∧ es.toList.map kvE = l.map (kvP val) ∧ (l.map (·.1)).Nodup ∧
    w.heap[r]? = some (.mapIter (some m) clock seen clock) ∧ seen.toList = (ds.map (·.born)).reverse ∧ (∀ d ∈ ds, d ∈ es.toList) ∧ ds.map (·.key) = done.map (Value.int .i64)
theorem IterOf.map {m : Nat} {done : List Int} (h : IterOf w r m val l done) : MapOf w m val l := by
  obtain ⟨es, clock, seen, ds, h1, h2, h3, h4, h5, _⟩ := h
  exact ⟨es, clock, h1, h2, h3, h4, h5⟩
theorem IterOf.kept {m : Nat} {done : List Int} {M : List Nat} (h : IterOf w r m val l done) (hk : Kept M w w') (hr : r ∉ M) (hm : m ∉ M) : IterOf w' r m val l done := by
  obtain ⟨es, clock, seen, ds, h1, h2, h3, h4, h5, h6, h7⟩ := h
  have l1 : m < w.heap.size := (Array.getElem?_eq_some_iff.1 h1).1
  have l2 : r < w.heap.size := (Array.getElem?_eq_some_iff.1 h6).1
  exact ⟨es, clock, seen, ds, (hk.block m l1 hm).trans h1, h2, h3, h4, h5, (hk.block r l2 hr).trans h6, h7⟩
theorem IterOf.seen {m : Nat} {done : List Int} (h : IterOf w r m val l done) : (w.iterSeen r).size = done.length := by
  obtain ⟨es, clock, seen, ds, h1, h2, h3, h4, h5, h6, h7, h8, h9⟩ := h
  have e : w.iterSeen r = seen := by unfold World.iterSeen; rw [h6]
  rw [e]
  have a := congrArg List.length h7
  have b := congrArg List.length h9
  simp at a b
  omega
theorem xE_rangeM {K : Value → World → Prop} {m : Nat} (hT : mapB P T E) (h : MapOf w m val l) (k : ∀ w', IterOf w' w.heap.size m val l [] → Kept [] w w' → w'.heap.size = w.heap.size + 1 → K (.pointer (some ⟨w.heap.size, 0, none⟩)) w') : xE P (sRange T (.map (some m))) w K := by
  obtain ⟨kt, h1, h2⟩ := hT
  have hlt := h.lt
  obtain ⟨es, c, hb, hbo, hnd, hm, hkn⟩ := h
  refine (xE_of (v := .pointer (some ⟨w.heap.size, 0, none⟩)) (w' := w.alloc (.mapIter (some m) c #[] c)) ?_).2 (k _ ?_ (kept_alloc _ _ _) (by simp))
  · unfold sRange
    exact run_sB P _ w (run_range_map w T kt E m es c h1 hb)
  · exact ⟨es, c, #[], [], (kept_alloc [] w _).block m hlt (by simp) |>.trans hb, hbo, hnd, hm, hkn, Go.heap_alloc_new w _, rfl, by simp, rfl⟩
theorem key_of {es : List MapEntry} (hm : es.map kvE = l.map (kvP val)) {e : MapEntry} (he : e ∈ es) : ∃ p ∈ l, e.key = .int .i64 p.1 ∧ e.val = val p.2 := by
  have : kvE e ∈ l.map (kvP val) := hm ▸ List.mem_map.2 ⟨e, he, rfl⟩
  obtain ⟨p, hp, hpe⟩ := List.mem_map.1 this
  exact ⟨p, hp, (congrArg (·.1) hpe).symm, (congrArg (·.2) hpe).symm⟩
theorem entry_of {es : List MapEntry} (hm : es.map kvE = l.map (kvP val)) {p : Int × α} (hp : p ∈ l) : ∃ e ∈ es, e.key = .int .i64 p.1 ∧ e.val = val p.2 := by
  have : kvP val p ∈ es.map kvE := hm ▸ List.mem_map.2 ⟨p, hp, rfl⟩
  obtain ⟨e, he, hpe⟩ := List.mem_map.1 this
  exact ⟨e, he, congrArg (·.1) hpe, congrArg (·.2) hpe⟩
theorem same_entry {es : List MapEntry} (hm : es.map kvE = l.map (kvP val)) (hk : (l.map (·.1)).Nodup) {a b : MapEntry} (ha : a ∈ es) (hb : b ∈ es) (h : a.key = b.key) : a = b := by
  obtain ⟨i, hi, rfl⟩ := List.getElem_of_mem ha
  obtain ⟨j, hj, rfl⟩ := List.getElem_of_mem hb
  have hlen : es.length = l.length := by simpa using congrArg List.length hm
  have key : ∀ i (hi : i < es.length), es[i].key = .int .i64 (l[i]'(by omega)).1 := by
    intro i hi
    have h1 : (es.map kvE)[i]? = (l.map (kvP val))[i]? := by rw [hm]
    rw [List.getElem?_map, List.getElem?_map, List.getElem?_eq_getElem hi, List.getElem?_eq_getElem (by omega)] at h1
    simp [kvE, kvP] at h1
    exact h1.1
  rw [key i hi, key j hj] at h
  have h : (l[i]'(by omega)).1 = (l[j]'(by omega)).1 := by simpa using h
  have : i = j := by
    have hn := List.pairwise_iff_getElem.1 hk
    rcases Nat.lt_trichotomy i j with hlt | he | hlt
    · exact (hn i j (by simp; omega) (by simp; omega) hlt (by rw [List.getElem_map, List.getElem_map]; exact h)).elim
    · exact he
    · exact (hn j i (by simp; omega) (by simp; omega) hlt (by rw [List.getElem_map, List.getElem_map]; exact h.symm)).elim
  subst this
  rfl
theorem xE_nextM {K : Value → World → Prop} {m : Nat} {done : List Int} {ty : TypeId} (h : IterOf w r m val l done) (hrm : r ≠ m) (k1 : (∀ p ∈ l, p.1 ∈ done) → K (.tuple #[.bool false]) w)
    (k2 : ∀ p ∈ l, p.1 ∉ done → ∀ w', IterOf w' r m val l (p.1 :: done) → Kept [r] w w' → w'.heap.size = w.heap.size → K (.tuple #[.bool true, .int .i64 p.1, val p.2]) w') : xE P (sNext (.pointer (some ⟨r, 0, none⟩)) false ty) w K := by
  obtain ⟨es, c, seen, ds, hb, hbo, hnd, hm, hkn, hr, hseen, hds, hdone⟩ := h
  have hin : ∀ e ∈ es.toList, seen.contains e.born = true ↔ ∃ k ∈ done, e.key = .int .i64 k := by
    intro e he
    rw [Array.contains_iff_mem, ← Array.mem_toList_iff, hseen, List.mem_reverse, List.mem_map]
    constructor
    · rintro ⟨d, hd, hdb⟩
      have hde : d = e := by
        obtain ⟨i, hi, rfl⟩ := List.getElem_of_mem (hds d hd)
        obtain ⟨j, hj, rfl⟩ := List.getElem_of_mem he
        have hn := List.pairwise_iff_getElem.1 hnd
        rcases Nat.lt_trichotomy i j with hlt | he | hlt
        · exact (hn i j (by simpa using hi) (by simpa using hj) hlt (by rw [List.getElem_map, List.getElem_map]; exact hdb)).elim
        · subst he; rfl
        · exact (hn j i (by simpa using hj) (by simpa using hi) hlt (by rw [List.getElem_map, List.getElem_map]; exact hdb.symm)).elim
      subst hde
      have : d.key ∈ done.map (Value.int .i64) := hdone ▸ List.mem_map.2 ⟨d, hd, rfl⟩
      obtain ⟨k, hk, hke⟩ := List.mem_map.1 this
      exact ⟨k, hk, hke.symm⟩
    · rintro ⟨k, hk, hke⟩
      have : Value.int .i64 k ∈ ds.map (·.key) := hdone ▸ List.mem_map.2 ⟨k, hk, rfl⟩
      obtain ⟨d, hd, hdk⟩ := List.mem_map.1 this
      exact ⟨d, hd, congrArg _ (same_entry hm hkn (hds d hd) he (hdk.trans hke.symm))⟩
  have ho := next_test_false seen es c c hbo (Nat.le_refl _)
  have hgr : (getObj r).run P w = .ok (.mapIter (some m) c seen c) w := by simp only [getObj, Sem.run, hr]
  have hgm : (getObj m).run P w = .ok (.map es c) w := MapKept.run_getObj_map hb
  have hmem : ∀ x ∈ (Array.filter (fun e => !seen.contains e.born) es).toList, x.born < c := fun x hx => hbo x (by simp at hx ⊢; exact hx.1)
  have hL : ∀ x, x ∈ (Array.filter (fun e => !seen.contains e.born) es).toList ↔ x ∈ es.toList ∧ seen.contains x.born = false := by intro x; simp
  have hrun0 : (Instr.next (.pointer (some ⟨r, 0, none⟩)) false ty).run P w = (do
      let left := es.filter fun e => !seen.contains e.born
      let old := left.filter (·.born < c)
      let new := left.filter (·.born ≥ c)
      let candidates := (if old.isEmpty then #[none] else #[]) ++ (old ++ new).map some
      match candidates[← choose (.mapNext candidates.size)]? with
      | some (some e) =>
        setObj r (.mapIter (some m) c (seen.push e.born) c)
        pure (.tuple #[.bool true, e.key, e.val])
      | some none => pure (.tuple #[.bool false])
      | none => stuck "Next: no such candidate" : Sem Value).run P w := by
    simp only [Instr.next, Sem.run_bind, hgr, hgm, Result.andThen_ok, ho, Bool.false_eq_true, if_false]
    rfl
  generalize hLL : Array.filter (fun e => !seen.contains e.born) es = L at hmem hL hrun0
  have e1 : L.filter (fun x => decide (x.born < c)) = L := Array.filter_eq_self.2 (fun x hx => by simpa using hmem x (by simpa using hx))
  have e2 : L.filter (fun x => decide (x.born ≥ c)) = #[] := by
    rw [Array.filter_eq_empty_iff]
    intro x hx
    have := hmem x (by simpa using hx)
    simp
    omega
  simp only [e1, e2, Array.append_empty] at hrun0
  by_cases h0 : L.size = 0
  · have hLe : L = #[] := Array.eq_empty_of_size_eq_zero h0
    subst hLe
    refine (xE_of (v := .tuple #[.bool false]) (w' := w) ?_).2 (k1 fun p hp => ?_)
    · unfold sNext
      refine run_sB P _ w ?_
      rw [hrun0]
      simp [choose, Sem.run, Question.forced]
    · obtain ⟨e, he, hek, _⟩ := entry_of hm hp
      have hc : seen.contains e.born = true := by
        cases hc : seen.contains e.born with
        | true => rfl
        | false => exact absurd ((hL e).2 ⟨he, hc⟩) (by simp)
      obtain ⟨k, hk, hke⟩ := (hin e he).1 hc
      rw [hek] at hke
      have : p.1 = k := by simpa using hke
      rw [this]
      exact hk
  · have hne : L.isEmpty = false := by simp [Array.isEmpty, h0]
    simp only [hne, Bool.false_eq_true, if_false, Array.empty_append, Array.size_map] at hrun0
    have hch : ∃ (j : Nat) (w1 : World), j < L.size ∧ w1.heap = w.heap ∧ Kept [] w w1 ∧ (choose (Question.mapNext L.size)).run P w = .ok j w1 := by
      by_cases hf : L.size ≤ 1
      · exact ⟨0, w, by omega, rfl, Kept.refl _ _, by simp [choose, Sem.run, Question.forced, hf]⟩
      · exact ⟨_, w.drew, Nat.mod_lt _ (by omega), rfl, kept_drew _ _, by
          simp only [choose, Sem.run, Question.forced, decide_eq_true_eq, hf, if_false, Question.cut]
          rfl⟩
    obtain ⟨j, w1, hj, hh1, hk1, hrun⟩ := hch
    have hLj := (hL L[j]).1 (by simp)
    obtain ⟨p, hp, hpk, hpv⟩ := key_of hm hLj.1
    have hr1 : w1.heap[r]? = some (.mapIter (some m) c seen c) := by rw [hh1]; exact hr
    have hso : ∀ o', (setObj r o').run P w1 = .ok () { w1 with heap := w1.heap.setIfInBounds r o' } := fun o' => by
      simp only [setObj, Sem.run, hr1]
    have hrl : r < w1.heap.size := (Array.getElem?_eq_some_iff.1 hr1).1
    refine (xE_of (v := .tuple #[.bool true, .int .i64 p.1, val p.2]) (w' := { w1 with heap := w1.heap.setIfInBounds r (.mapIter (some m) c (seen.push L[j].born) c) }) ?_).2 (k2 p hp ?_ _ ?_ ?_ (by simp [hh1]))
    · unfold sNext
      refine run_sB P _ w ?_
      rw [hrun0]
      simp only [Sem.run_bind, hrun, Result.andThen_ok, Array.getElem?_map, Array.getElem?_eq_getElem hj, Option.map_some, hso, hpk, hpv]
      rfl
    · intro hpd
      have := (hin _ hLj.1).2 ⟨p.1, hpd, hpk⟩
      rw [hLj.2] at this
      cases this
    · refine ⟨es, c, seen.push L[j].born, L[j] :: ds, ?_, hbo, hnd, hm, hkn, ?_, by simp [hseen], ?_, by simp [hdone, hpk]⟩
      · show (w1.heap.setIfInBounds r _)[m]? = _
        rw [Array.getElem?_setIfInBounds_ne hrm, hh1]
        exact hb
      · show (w1.heap.setIfInBounds r _)[r]? = _
        rw [Array.getElem?_setIfInBounds_self_of_lt hrl]
      · intro d hd
        rcases List.mem_cons.1 hd with rfl | hd
        · exact hLj.1
        · exact hds d hd
    · refine ⟨hk1.os, hk1.tape, hk1.output, by simp [hh1], fun q hq hn => ?_⟩
      show (w1.heap.setIfInBounds r _)[q]? = _
      have : r ≠ q := fun h => hn (by simp [h])
      rw [Array.getElem?_setIfInBounds_ne this, hh1]
theorem xR_entryM {K : Value → Prop} {m : Nat} {done : List Int} {p : Int × α} (h : IterOf w r m val l (p.1 :: done)) (hp : p ∈ l) : xR P (sEntry (.pointer (some ⟨r, 0, none⟩))) w K ↔ K (.tuple #[.int .i64 p.1, val p.2]) := by
  obtain ⟨es, c, seen, ds, hb, hbo, hnd, hm, hkn, hr, hseen, hds, hdone⟩ := h
  cases ds with
  | nil => simp at hdone
  | cons d ds =>
    simp only [List.map_cons, List.cons.injEq] at hdone
    have hde := hds d List.mem_cons_self
    obtain ⟨e, he, hek, hev⟩ := entry_of hm hp
    have hsame : d = e := same_entry hm hkn hde he (hdone.1.trans hek.symm)
    subst hsame
    refine xR_of ?_
    unfold sEntry
    refine run_sB P _ w ?_
    have hgr : (getObj r).run P w = .ok (.mapIter (some m) c seen c) w := by simp only [getObj, Sem.run, hr]
    have hgm : (getObj m).run P w = .ok (.map es c) w := MapKept.run_getObj_map hb
    have hback : seen.back? = some d.born := by
      rw [← Array.getLast?_toList, hseen]
      simp
    have hf : es.find? (·.born == d.born) = some d := by rw [← Array.find?_toList]; exact find_born d es.toList hnd hde
    simp only [Instr.entry, Sem.run_bind, hgr, hgm, Result.andThen_ok, hback, bne_self_eq_false, Bool.false_eq_true, if_false, hf, hek, hev, Sem.run_pure]
end
end Go.X
