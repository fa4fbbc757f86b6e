import Derived.Test.YtfjoepdmjopelaaDoorXkDisk4
namespace Go.Proofs.YtfjoepdmjopelaaDoor
set_option linter.unusedSimpArgs false
set_option linter.unusedVariables false
set_option maxRecDepth 100000
attribute [local irreducible] Go.X.xE
open Go Go.X Go.RowKit

/-! ## What the laws on disks share -/
structure DA where
  kind : Int
  i : Int
  at_ : Int
  x : UInt8
  bits : Int
  short : Bool
def encA (q : DA) : List Value := [.int .i64 q.kind, .int .i64 q.i, .int .i64 q.at_, .int .u8 q.x.toNat, .int .u64 q.bits, .bool q.short]
theorem encA_len (q : DA) : (encA q).length = 6 := rfl
theorem rowDA : RowB Tryd.prog 22 33 6 encA (fun q => .agg (encA q).toArray) := RowB.agg (by kernel_rfl) (by kernel_rfl) encA_len (by kernel_rfl)
/-- What is read of each sector. -/
def Rd (D : Dk) (n : Nat) (f : List UInt8) : Prop := ∀ k, k < n → D.read k = all (f.getD k 0)
/-- What each sector has. -/
def Sc (D : Dk) (n : Nat) (f : List UInt8) : Prop := ∀ k, k < n → D.sec.getD k [] = all (f.getD k 0)
theorem Rd.write {D : Dk} {n k : Nat} {f : List UInt8} {x : UInt8} (h : Rd D n f) (hf : f.length = n) : Rd (D.write k (all x)) n (f.set k x) := by
  intro j hj
  have e : (f.set k x).getD j 0 = if k = j then x else f.getD j 0 := by
    rw [List.getD_eq_getElem?_getD, List.getElem?_set]
    split
    · rw [if_pos (by omega)]; rfl
    · rw [List.getD_eq_getElem?_getD]
  rw [e]
  have h0 := h j hj
  unfold Dk.read at h0
  unfold Dk.read Dk.write
  simp only
  by_cases hjk : j = k
  · rw [if_pos hjk, if_pos hjk.symm]
    rfl
  · rw [if_neg hjk, if_neg (fun e => hjk e.symm)]
    exact h0
theorem Sc.write {D : Dk} {n k : Nat} {f b : List UInt8} (h : Sc D n f) : Sc (D.write k b) n f := h
theorem drain_read (D : Dk) (s : Nat → Bool) {k : Nat} (hk : k < D.sec.length) : (D.drain s).read k = if s k then (D.wt k).getD (D.sec.getD k []) else D.sec.getD k [] := by
  unfold Dk.read
  show (none : Option (List UInt8)).getD ((D.drain s).sec.getD k []) = _
  rw [List.getD_eq_getElem?_getD, drain_get, List.getElem?_eq_getElem hk, List.getD_eq_getElem?_getD, List.getElem?_eq_getElem hk]
  rfl
theorem drain_sec (D : Dk) (s : Nat → Bool) {k : Nat} (hk : k < D.sec.length) : (D.drain s).sec.getD k [] = if s k then (D.wt k).getD (D.sec.getD k []) else D.sec.getD k [] := by
  rw [List.getD_eq_getElem?_getD, drain_get, List.getElem?_eq_getElem hk, List.getD_eq_getElem?_getD, List.getElem?_eq_getElem hk]
  rfl
theorem flush_sec (D : Dk) {k : Nat} (hk : k < D.sec.length) : D.flush.sec.getD k [] = D.read k := by
  unfold Dk.flush
  rw [drain_sec D _ hk]
  unfold Dk.read
  cases D.wt k <;> rfl
theorem flush_read (D : Dk) {k : Nat} (hk : k < D.sec.length) : D.flush.read k = D.read k := by
  unfold Dk.flush
  rw [drain_read D _ hk]
  unfold Dk.read
  cases D.wt k <;> rfl
theorem drain_ws (D : Dk) (s : Nat → Bool) : (D.drain s).ws = [] := by
  unfold Dk.ws
  rw [List.filter_eq_nil_iff]
  intro i _
  show ¬ ((none : Option (List UInt8)).isSome = true)
  simp
theorem ws_le (D : Dk) : D.ws.length ≤ D.sec.length := by
  unfold Dk.ws
  have := List.length_filter_le (fun i => (D.wt i).isSome) (List.range D.sec.length)
  rwa [List.length_range] at this
theorem new_read (n : Nat) : Rd (Dk.new n) n (List.replicate n 0) ∧ Sc (Dk.new n) n (List.replicate n 0) := by
  have h : Sc (Dk.new n) n (List.replicate n 0) := by
    intro k hk
    unfold Dk.new
    simp only
    rw [List.getD_eq_getElem?_getD, List.getElem?_replicate, if_pos hk, List.getD_eq_getElem?_getD, List.getElem?_replicate, if_pos hk]
    rfl
  exact ⟨fun k hk => h k hk, h⟩
theorem ARR5 : arrB Tryd.prog 28 5 5 := by unfold arrB; kernel_rfl
theorem getD_cell {f : List UInt8} {k : Nat} (hk : k < f.length) : (f.flatMap encB)[k]? = some (.int .u8 (f.getD k 0).toNat) := by
  rw [flat_B, List.getElem?_map, List.getElem?_eq_getElem hk, List.getD_eq_getElem?_getD, List.getElem?_eq_getElem hk]
  rfl
/-- The test ahead of a round. -/
theorem askT {n M i : Nat} {a : Option Addr} {c : Nat} {w : World} {b2 : List Value → Env → World → Prop} (k : ∀ junk, b2 [.bool (decide (i < n ∧ i < M))] junk w) :
    xJoin (fun J => xP Tryd.prog (sB .len #[22] #[.slice a n c]) fun v => xP Tryd.prog (sBin .lss 3 (.int .i64 i) v) fun u => xIf u (xP Tryd.prog (sBin .lss 3 (.int .i64 i) (.int .i64 M)) fun x => J [x] w) (J [.bool false] w)) b2 := by
  refine xJoin_of (fun ls w' => ls = [.bool (decide (i < n ∧ i < M))] ∧ w = w') ?_ (fun _ junk _ ⟨e, e'⟩ => by subst e; subst e'; exact k junk)
  simp only [xP_nil, xP_pick, xP_func, xP_not, xP_add, xP_sub, xP_mul, xP_lss, xP_leq, xP_gtr, xP_geq, xP_max2, xP_min2, xR_eql, xR_neq, Nat.zero_add, Nat.add_zero, Nat.reduceAdd, List.getD_cons_zero, List.getD_cons_succ, xIf_true, xIf_false, FA_33_0, FA_33_1, FA_33_3, FA_53_0, FA_53_1, FA_53_2, FA_53_3, FA_61_0, FA_61_1, FA_61_2, LEN_22, LEN_36, LEN_41, LEN_50, LEN_58, LEN_94, xIf_dec]
  refine ⟨fun h1 => ⟨by rw [decide_eq_decide.2 (show ((i : Int) < M) ↔ (i < n ∧ i < M) by omega)], trivial⟩, fun h1 => ⟨by rw [decide_eq_false (show ¬ (i < n ∧ i < M) by omega)], trivial⟩⟩
/-- The test of a disk that was made. -/
theorem madeT {p : Nat} {w : World} {b2 : List Value → Env → World → Prop} (k : ∀ junk, b2 [.bool false] junk w) :
    xJoin (fun J => xR Tryd.prog (sEq .eql 23 true (.pointer (some ⟨p, 0, none⟩)) (.pointer none)) w fun v => xIf v (J [.bool true] w) (xR Tryd.prog (sEq .neq 25 true .nilIface .nilIface) w fun u => J [u] w)) b2 := by
  refine xJoin_of (fun ls w' => ls = [.bool false] ∧ w = w') ?_ (fun _ junk _ ⟨e, e'⟩ => by subst e; subst e'; exact k junk)
  refine (xR_pnil PT_23).2 ?_
  simp only [Option.isNone_some, xIf_false]
  refine (xR_neqN IFE).2 ?_
  exact ⟨rfl, trivial⟩
theorem withinN {n lo hi : Int} {w : World} {K : Value → World → Prop} (h0 : 0 ≤ lo) (h1 : lo ≤ hi) (h2 : hi ≤ 1000000) (k : ∀ m : Nat, (m : Int) = within n lo hi → lo ≤ m → (m : Int) ≤ hi → K (.int .i64 m) w) : xE Tryd.prog (sCall 5 #[.int .i64 n, .int .i64 lo, .int .i64 hi]) w K := by
  refine xE_call CF_5 (within_ok (by omega) h1 (by omega)) ?_
  rintro _ _ ⟨rfl, rfl⟩
  obtain ⟨b1, b2⟩ := within_bd (n := n) h1
  obtain ⟨m, hm⟩ := Int.eq_ofNat_of_zero_le (show 0 ≤ within n lo hi by omega)
  rw [hm]
  exact k m hm.symm (by omega) (by omega)

/-! ## DiskTears -/
end Go.Proofs.YtfjoepdmjopelaaDoor
