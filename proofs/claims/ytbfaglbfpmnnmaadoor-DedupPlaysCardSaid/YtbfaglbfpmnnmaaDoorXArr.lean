import Derived.Test.YtbfaglbfpmnnmaaDoorXFault
import Derived.Test.YtbfaglbfpmnnmaaDoorXMap
import Derived.Laws.IdiomRangeMap
namespace Go.X
set_option linter.unusedSimpArgs false
set_option linter.unusedVariables false
open Go Go.RowKit

/-! ## Arrays -/
def arrB (P : Program) (T E : TypeId) (n : Nat) : Prop := P.underlying T = some (.array n E)
section
variable {P : Program} {T E : TypeId} {K : Value → Prop} {w : World}
theorem xP_IAarr {b o n sz i : Nat} {q : IntKind} (h : arrB P T E n) (hs : sizeB P E sz = true) (h1 : i < n) :
    xP P (sIA T (.pointer (some ⟨b, o, none⟩)) (.int q i)) K ↔ K (.pointer (some ⟨b, o + i * sz, none⟩)) := by
  refine xP_of fun w => ?_
  obtain ⟨e, he, hsz⟩ := sizeB_spec hs
  unfold arrB at h
  unfold sIA
  refine run_sB P _ w ?_
  have h1' : (i : Int) < n := by omega
  simp [Instr.indexAt, asIntOf, run_underlying h, Instr.sureAddr, Sem.run_bind, sizeOf_run he hsz, h1, add_none]
theorem xP_idxArr {n i sz : Nat} {q : IntKind} {cs : Array Value} {v : Value} (h : arrB P T E n) (hs : oneB P E = true) (h1 : i < n) (hv : cs[i]? = some v) :
    xP P (sIndex T (.agg cs) (.int q i)) K ↔ K v := by
  refine xP_of fun w => ?_
  obtain ⟨e, he, hsz⟩ := oneB_size hs
  unfold arrB at h
  unfold sIndex
  refine run_sB P _ w ?_
  have h1' : (i : Int) < n := by omega
  simp [Instr.index, asIntOf, run_underlying h, Sem.run_bind, sizeOf_run he hsz, h1, part, isAgg_one hs, hv]
/-- a[i:j] of an array that lies at an address. -/
theorem xP_sliceArr {b o n sz i j : Nat} {q q' : IntKind} (h : arrB P T E n) (hs : sizeB P E sz = true) (h1 : i ≤ j) (h2 : j ≤ n) :
    xP P (sSlice T (.pointer (some ⟨b, o, none⟩)) (some (.int q i)) (some (.int q' j)) none) K ↔ K (.slice (some ⟨b, if n = i then o else o + i * sz, none⟩) (j - i) (n - i)) := by
  refine xP_of fun w => ?_
  obtain ⟨e, he, hsz⟩ := sizeB_spec hs
  unfold arrB at h
  unfold sSlice
  refine run_sB P _ w ?_
  have e1 : (if n = i then (⟨b, o, none⟩ : Addr) else ⟨b, o + i * sz, none⟩) = ⟨b, if n = i then o else o + i * sz, none⟩ := by split <;> rfl
  simp [Instr.sliceAt, run_underlying h, Instr.sureAddr, Instr.sliceBounds, Instr.sliceBound, asIntOf, h1, h2, sizeOf_run he hsz, add_none, e1]
theorem xP_wholeArr {b o n sz : Nat} (h : arrB P T E n) (hs : sizeB P E sz = true) :
    xP P (sSlice T (.pointer (some ⟨b, o, none⟩)) none none none) K ↔ K (.slice (some ⟨b, o, none⟩) n n) := by
  refine xP_of fun w => ?_
  obtain ⟨e, he, hsz⟩ := sizeB_spec hs
  unfold arrB at h
  unfold sSlice
  refine run_sB P _ w ?_
  simp [Instr.sliceAt, run_underlying h, Instr.sureAddr, Instr.sliceBounds, Instr.sliceBound, asIntOf, sizeOf_run he hsz, add_none]

/-! ## Truth values -/
def boolB (P : Program) (T : TypeId) : Prop := P.underlying T = some .bool
theorem xR_eqlBool {c a b : Bool} (h : boolB P T) : xR P (sEq .eql T c (.bool a) (.bool b)) w K ↔ K (.bool (a == b)) := xR_of (by
  unfold sEq
  refine run_sB P _ w ?_
  have : eqGuard .eql T (bif c then .const undef else .tmp 0) (.tmp 0) (.bool a) (.bool b) = pure () := by cases c <;> rfl
  rw [this]
  simp only [pure_bind]
  exact run_eql_bool w T a b h)
theorem xR_neqBool {c a b : Bool} (h : boolB P T) : xR P (sEq .neq T c (.bool a) (.bool b)) w K ↔ K (.bool (!(a == b))) := xR_of (by
  unfold sEq
  refine run_sB P _ w ?_
  have : eqGuard .neq T (bif c then .const undef else .tmp 0) (.tmp 0) (.bool a) (.bool b) = pure () := by cases c <;> rfl
  rw [this]
  simp only [pure_bind]
  simp only [binOp, Op.equal, Op.maxDepth]
  have e : ∀ d : Nat, (Op.equalIn (d + 1) T (.bool a) (.bool b)).run P w = .ok (a == b) w := fun d => by
    unfold boolB at h
    simp [Op.equalIn, run_underlying h]
  have := e 9999
  simp [this])

/-! ## Maps -/
theorem xR_eqlMapNil {c : Bool} {r : Nat} {k e : TypeId} (h : P.underlying T = some (.map k e)) : xR P (sEq .eql T c (.map (some r)) (.map none)) w K ↔ K (.bool false) := xR_of (by
  unfold sEq
  refine run_sB P _ w ?_
  have : eqGuard .eql T (bif c then .const undef else .tmp 0) (.tmp 0) (.map (some r)) (.map none) = pure () := by cases c <;> rfl
  rw [this]
  simp only [pure_bind]
  simp only [binOp, Op.equal, Op.maxDepth]
  have e : ∀ d : Nat, (Op.equalIn (d + 1) T (.map (some r)) (.map none)).run P w = .ok false w := fun d => by
    simp [Op.equalIn, run_underlying h]
  have := e 9999
  simp [this])
theorem xP_assertV {t a : TypeId} {v : Value} (h : concB P a = true) : xP P (sAssert (.iface a v) t a false) K ↔ K v := xP_of fun w => by
  unfold concB at h
  unfold sAssert
  refine run_sB P _ w ?_
  cases hu : P.underlying a with
  | none => rw [hu] at h; cases h
  | some d =>
    rw [hu] at h
    simp only [Instr.typeAssert, Sem.run_bind, run_underlying hu, Result.andThen_ok]
    cases d <;> first | (simp; done) | cases h
end
theorem clone_run {α : Type} {val : α → Value} {P : Program} {w : World} {r : Nat} {l : List (Int × α)} (t : TypeId) (h : MapOf w r val l) :
    ∃ w', (Extern.MapsClone.clone #[.iface t (.map (some r))]).run P w = .ok (.iface t (.map (some w.heap.size))) w' ∧ MapOf w' w.heap.size val l ∧ Kept [] w w' ∧ w'.heap.size = w.heap.size + 1 := by
  obtain ⟨es, clock, hb, hh⟩ := h
  have e : Extern.MapsClone.clone #[.iface t (.map (some r))] = (getObj r >>= fun o => match o with
      | .map entries clock => (newObj (.map entries clock) >>= fun n => pure (.iface t (.map (some n))))
      | _ => stuck "maps.clone: a map expected") := rfl
  refine ⟨w.alloc (.map es clock), ?_, ⟨es, clock, heap_alloc_new w _, hh⟩, kept_alloc _ _ _, by simp⟩
  rw [e]
  simp [MapKept.run_getObj_map hb, Result.andThen]
/-! ## Fields of elements -/
theorem RowB.fld {α : Type} {P : Program} {T E X : TypeId} {sz f off i : Nat} {enc : α → List Value} {val : α → Value} {w w' : World} {K : Value → Prop} (hr : RowB P T E sz enc val) {l : List α} {a0 u : Value} {q : IntKind} (hsl : SlT w enc a0 l) (hk : Kept [] w w') (hi : i < l.length)
    (hf : fieldB P E f off = true) (h1 : oneB P X = true) (hu : (enc l[i])[off]? = some u) :
    (xP P (sIA T a0 (.int q i)) fun v => xP P (sFA E v f) fun c => xR P (sLoad X c) w' K) ↔ K u := by
  obtain ⟨b, o, c, rfl, hat⟩ := hsl.elem hr.len hi
  rw [xP_IAn hr.sl hr.size hi, xP_FA hf]
  exact ld1 h1 (at_cell (hat.kept hk (by simp)) hu)
theorem slT_blk {α : Type} {w : World} {enc : α → List Value} {E : TypeId} {b : Nat} {l : List α} (h : Blk w b E (l.flatMap enc)) : SlT w enc (.slice (some ⟨b, 0, none⟩) l.length l.length) l :=
  ⟨_, _, rfl, Nat.le_refl _, .inr ⟨b, 0, rfl, h.at⟩⟩
/-- The test of a loop 'i < len(l) && i < M'. -/
theorem xTest2 {P : Program} {T E I : TypeId} {w : World} {a : Option Addr} {n c i : Nat} {M : Int} {b2 : List Value → Env → World → Prop} (hT : sliceB P T E = true)
    (k1 : i < n → (i : Int) < M → ∀ junk, b2 [.bool true] junk w) (k2 : ¬ (i < n ∧ (i : Int) < M) → ∀ junk, b2 [.bool false] junk w) :
    xJoin (fun J => xP P (sB .len #[T] #[.slice a n c]) fun v => xP P (sBin .lss I (.int .i64 i) v) fun u => xIf u (xP P (sBin .lss I (.int .i64 i) (.int .i64 M)) fun x => J [x] w) (J [.bool false] w)) b2 := by
  refine xJoin_one ?_
  refine (xP_len hT).2 ?_
  simp only [xP_lss, xIf_dec]
  refine ⟨fun h1 => ?_, fun h1 => k2 (by omega)⟩
  by_cases h : (i : Int) < M
  · rw [decide_eq_true h]; exact k1 (by omega) h
  · rw [decide_eq_false h]; exact k2 (by omega)
/-- The same, where the address is asked once more. -/
theorem RowB.fldA {α : Type} {P : Program} {T E X : TypeId} {sz f off i : Nat} {enc : α → List Value} {val : α → Value} {w w' : World} {K : Value → Value → Prop} (hr : RowB P T E sz enc val) {l : List α} {a0 u : Value} {q : IntKind} (hsl : SlT w enc a0 l) (hk : Kept [] w w') (hi : i < l.length)
    (hf : fieldB P E f off = true) (h1 : oneB P X = true) (hu : (enc l[i])[off]? = some u) (k : ∀ A : Addr, (∀ w'', Kept [] w w'' → w''.cell? A = some u) → K (.pointer (some A)) u) :
    (xP P (sIA T a0 (.int q i)) fun v => xP P (sFA E v f) fun c => xR P (sLoad X c) w' fun u => K c u) := by
  obtain ⟨b, o, c, rfl, hat⟩ := hsl.elem hr.len hi
  rw [xP_IAn hr.sl hr.size hi, xP_FA hf]
  refine (ld1 h1 (at_cell (hat.kept hk (by simp)) hu)).2 (k _ fun w'' hk' => at_cell (hat.kept hk' (by simp)) hu)
end Go.X
