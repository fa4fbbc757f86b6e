import Derived.Test.YthmjjdfjegjfeaaDoorXkDisk4
namespace Go.Proofs.YthmjjdfjegjfeaaDoor
set_option linter.unusedSimpArgs false
set_option linter.unusedVariables false
set_option maxRecDepth 100000
attribute [local irreducible] Go.X.xE
open Go Go.X Go.RowKit

/-! ## What the laws on disks share -/
structure DA where
  kind : Int
  i : Int
  at_ : Int
  x : UInt8
  bits : Int
  short : Bool
def encA (q : DA) : List Value := [.int .i64 q.kind, .int .i64 q.i, .int .i64 q.at_, .int .u8 q.x.toNat, .int .u64 q.bits, .bool q.short]
theorem encA_len (q : DA) : (encA q).length = 6 := rfl
theorem rowDA : RowB Tryd.prog 40 44 6 encA (fun q => .agg (encA q).toArray) := RowB.agg (by kernel_rfl) (by kernel_rfl) encA_len (by kernel_rfl)
/-- What is read of each sector. -/
def Rd (D : Dk) (n : Nat) (f : List UInt8) : Prop := ∀ k, k < n → D.read k = all (f.getD k 0)
/-- What each sector has. -/
def Sc (D : Dk) (n : Nat) (f : List UInt8) : Prop := ∀ k, k < n → D.sec.getD k [] = all (f.getD k 0)
theorem Rd.write {D : Dk} {n k : Nat} {f : List UInt8} {x : UInt8} (h : Rd D n f) (hf : f.length = n) : Rd (D.write k (all x)) n (f.set k x) := by
  intro j hj
  have e : (f.set k x).getD j 0 = if k = j then x else f.getD j 0 := by
    rw [List.getD_eq_getElem?_getD, List.getElem?_set]
    split
    · rw [if_pos (by omega)]; rfl
    · rw [List.getD_eq_getElem?_getD]
  rw [e]
  have h0 := h j hj
  unfold Dk.read at h0
  unfold Dk.read Dk.write
  simp only
  by_cases hjk : j = k
  · rw [if_pos hjk, if_pos hjk.symm]
    rfl
  · rw [if_neg hjk, if_neg (fun e => hjk e.symm)]
    exact h0
theorem Sc.write {D : Dk} {n k : Nat} {f b : List UInt8} (h : Sc D n f) : Sc (D.write k b) n f := h
theorem drain_read (D : Dk) (s : Nat → Bool) {k : Nat} (hk : k < D.sec.length) : (D.drain s).read k = if s k then (D.wt k).getD (D.sec.getD k []) else D.sec.getD k [] := by
  unfold Dk.read
  show (none : Option (List UInt8)).getD ((D.drain s).sec.getD k []) = _
  rw [List.getD_eq_getElem?_getD, drain_get, List.getElem?_eq_getElem hk, List.getD_eq_getElem?_getD, List.getElem?_eq_getElem hk]
  rfl
theorem drain_sec (D : Dk) (s : Nat → Bool) {k : Nat} (hk : k < D.sec.length) : (D.drain s).sec.getD k [] = if s k then (D.wt k).getD (D.sec.getD k []) else D.sec.getD k [] := by
  rw [List.getD_eq_getElem?_getD, drain_get, List.getElem?_eq_getElem hk, List.getD_eq_getElem?_getD, List.getElem?_eq_getElem hk]
  rfl
theorem flush_sec (D : Dk) {k : Nat} (hk : k < D.sec.length) : D.flush.sec.getD k [] = D.read k := by
  unfold Dk.flush
  rw [drain_sec D _ hk]
  unfold Dk.read
  cases D.wt k <;> rfl
theorem flush_read (D : Dk) {k : Nat} (hk : k < D.sec.length) : D.flush.read k = D.read k := by
  unfold Dk.flush
  rw [drain_read D _ hk]
  unfold Dk.read
  cases D.wt k <;> rfl
theorem drain_ws (D : Dk) (s : Nat → Bool) : (D.drain s).ws = [] := by
  unfold Dk.ws
  rw [List.filter_eq_nil_iff]
  intro i _
  show ¬ ((none : Option (List UInt8)).isSome = true)
  simp
theorem ws_le (D : Dk) : D.ws.length ≤ D.sec.length := by
  unfold Dk.ws
  have := List.length_filter_le (fun i => (D.wt i).isSome) (List.range D.sec.length)
  rwa [List.length_range] at this
theorem new_read (n : Nat) : Rd (Dk.new n) n (List.replicate n 0) ∧ Sc (Dk.new n) n (List.replicate n 0) := by
  have h : Sc (Dk.new n) n (List.replicate n 0) := by
    intro k hk
    unfold Dk.new
    simp only
    rw [List.getD_eq_getElem?_getD, List.getElem?_replicate, if_pos hk, List.getD_eq_getElem?_getD, List.getElem?_replicate, if_pos hk]
    rfl
  exact ⟨fun k hk => h k hk, h⟩
theorem ARR6 : arrB Tryd.prog 41 5 6 := by unfold arrB; kernel_rfl
theorem ARR5 : arrB Tryd.prog 50 5 5 := by unfold arrB; kernel_rfl
theorem getD_cell {f : List UInt8} {k : Nat} (hk : k < f.length) : (f.flatMap encB)[k]? = some (.int .u8 (f.getD k 0).toNat) := by
  rw [flat_B, List.getElem?_map, List.getElem?_eq_getElem hk, List.getD_eq_getElem?_getD, List.getElem?_eq_getElem hk]
  rfl
/-- The test ahead of a round. -/
theorem askT {n M i : Nat} {a : Option Addr} {c : Nat} {w : World} {b2 : List Value → Env → World → Prop} (k : ∀ junk, b2 [.bool (decide (i < n ∧ i < M))] junk w) :
    xJoin (fun J => xP Tryd.prog (sB .len #[40] #[.slice a n c]) fun v => xP Tryd.prog (sBin .lss 3 (.int .i64 i) v) fun u => xIf u (xP Tryd.prog (sBin .lss 3 (.int .i64 i) (.int .i64 M)) fun x => J [x] w) (J [.bool false] w)) b2 := by
  refine xJoin_of (fun ls w' => ls = [.bool (decide (i < n ∧ i < M))] ∧ w = w') ?_ (fun _ junk _ ⟨e, e'⟩ => by subst e; subst e'; exact k junk)
  simp only [xP_nil, xP_pick, xP_func, xP_not, xP_add, xP_sub, xP_mul, xP_lss, xP_leq, xP_gtr, xP_geq, xP_max2, xP_min2, xR_eql, xR_neq, Nat.zero_add, Nat.add_zero, Nat.reduceAdd, List.getD_cons_zero, List.getD_cons_succ, xIf_true, xIf_false, FA_44_0, FA_44_1, FA_44_2, FA_44_3, FA_44_4, FA_44_5, FA_63_0, FA_63_1, FA_63_2, FA_63_3, FA_71_0, FA_71_1, FA_71_2, FA_71_3, FA_81_2, LEN_28, LEN_40, LEN_46, LEN_59, LEN_106, xIf_dec]
  refine ⟨fun h1 => ⟨by rw [decide_eq_decide.2 (show ((i : Int) < M) ↔ (i < n ∧ i < M) by omega)], trivial⟩, fun h1 => ⟨by rw [decide_eq_false (show ¬ (i < n ∧ i < M) by omega)], trivial⟩⟩
/-- The test of a disk that was made. -/
theorem madeT {p : Nat} {w : World} {b2 : List Value → Env → World → Prop} (k : ∀ junk, b2 [.bool false] junk w) :
    xJoin (fun J => xR Tryd.prog (sEq .eql 22 true (.pointer (some ⟨p, 0, none⟩)) (.pointer none)) w fun v => xIf v (J [.bool true] w) (xR Tryd.prog (sEq .neq 24 true .nilIface .nilIface) w fun u => J [u] w)) b2 := by
  refine xJoin_of (fun ls w' => ls = [.bool false] ∧ w = w') ?_ (fun _ junk _ ⟨e, e'⟩ => by subst e; subst e'; exact k junk)
  refine (xR_pnil PT_22).2 ?_
  simp only [Option.isNone_some, xIf_false]
  refine (xR_neqN IFE).2 ?_
  exact ⟨rfl, trivial⟩
theorem withinN {n lo hi : Int} {w : World} {K : Value → World → Prop} (h0 : 0 ≤ lo) (h1 : lo ≤ hi) (h2 : hi ≤ 1000000) (k : ∀ m : Nat, (m : Int) = within n lo hi → lo ≤ m → (m : Int) ≤ hi → K (.int .i64 m) w) : xE Tryd.prog (sCall 18 #[.int .i64 n, .int .i64 lo, .int .i64 hi]) w K := by
  refine xE_call CF_18 (within_ok (by omega) h1 (by omega)) ?_
  rintro _ _ ⟨rfl, rfl⟩
  obtain ⟨b1, b2⟩ := within_bd (n := n) h1
  obtain ⟨m, hm⟩ := Int.eq_ofNat_of_zero_le (show 0 ≤ within n lo hi by omega)
  rw [hm]
  exact k m hm.symm (by omega) (by omega)

/-! ## DiskTears -/
theorem dtears_ok {bits : Int} {l more : List DA} {v v2 : Value} {w : World} (hgl : Glob w) (hl : SlT w encA v l) (hmore : SlT w encA v2 more) :
    Gives Tryd.prog 4 #[v, v2, .int .u64 bits] w fun u w' => u = .bool true ∧ Kept [] w w' := by
  refine C_stavelaw6_DiskTears ?_
  unfold S_stavelaw6_DiskTears
  obtain ⟨la, lc, rfl, hlc, hlr⟩ := hl
  have hl : SlT w encA (.slice la l.length lc) l := ⟨la, lc, rfl, hlc, hlr⟩
  obtain ⟨ma, mc, rfl, hmc, hmr⟩ := hmore
  have hmore : SlT w encA (.slice ma more.length mc) more := ⟨ma, mc, rfl, hmc, hmr⟩
  refine newD (by omega) (by omega) fun p w1 h1 _ => ?_
  simp only [xP_ex0, xP_ex1]
  refine madeT fun _ => ?_
  simp only [List.getD_cons_zero, xIf_false]
  refine xE_alloc Z_41 fun w2 hb2 hk2 hz2 => ?_
  refine xE_alloc Z_41 fun w3 hb3 hk3 hz3 => ?_
  have hb2' : Blk w3 w1.heap.size 41 ((List.replicate 6 (0 : UInt8)).flatMap encB) := Blk.kept hb2 hk3 (by simp)
  have hb3' : Blk w3 w2.heap.size 41 ((List.replicate 6 (0 : UInt8)).flatMap encB) := hb3
  have hz1 := h1.k0.size
  have h3 : DX w w3 p (Dk.new 6) [w1.heap.size, w2.heap.size] := h1.more (hk2.then hk3 (by simp)) (fun g hg => by simp at hg; rcases hg with rfl | rfl <;> exact ⟨.inr (by omega), by omega⟩)
  generalize hH : w1.heap.size = H at *
  generalize hG : w2.heap.size = G at *
  have hHG : H ≠ G := by omega
  have hHw : w.heap.size ≤ H := by omega
  have hGw : w.heap.size ≤ G := by omega
  clear hb2 hb3
  refine xLoop_of (fun ls w' => ∃ (i : Nat) (D : Dk) (hs : List UInt8), ls = [.int .i64 i] ∧ i ≤ l.length ∧ i ≤ 20 ∧ hs.length = 6 ∧ DX w w' p D [H, G] ∧ Blk w' H 41 (hs.flatMap encB) ∧ Blk w' G 41 ((List.replicate 6 (0 : UInt8)).flatMap encB) ∧ D.dead = false ∧ D.sec.length = 6 ∧ Rd D 6 hs)
    (fun ls _ => match ls with | [.int _ i] => 20 - i.toNat | _ => 0) ⟨0, Dk.new 6, List.replicate 6 0, rfl, by omega, by omega, by simp, h3, hb2', hb3', rfl, by simp [Dk.new], (new_read 6).1⟩ ?_
  rintro _ _ w4 ⟨i, D, hs, rfl, hi, hi20, hhs, h4, hbH, hbG, hd, hsl, hrd⟩
  refine askT fun _ => ?_
  simp only [List.getD_cons_zero, xIf_dec]
  refine ⟨fun hgo => ?_, fun hstop => ?_⟩
  · have hil := hgo.1
    refine rowDA.fldA hl h4.k0 hil (show fieldB Tryd.prog 44 1 1 = true by kernel_rfl) ONE_3 (u := .int .i64 (l[i]).i) rfl fun A1 _ => ?_
    refine withinN (by omega) (by omega) (by omega) fun k _ _ hk5 => ?_
    refine rowDA.fldA hl h4.k0 hil (show fieldB Tryd.prog 44 3 3 = true by kernel_rfl) ONE_5 (u := .int .u8 (l[i]).x.toNat) rfl fun A2 _ => ?_
    refine sectorS fun sv w5 hsv hk5' _ => ?_
    refine writeG (h4.next hk5') hsv (all_len _) hd (by omega) fun w6 M h6 hk6 hM6 => ?_
    refine rowDA.fldA hl h6.k0 hil (show fieldB Tryd.prog 44 3 3 = true by kernel_rfl) ONE_5 (u := .int .u8 (l[i]).x.toNat) rfl fun A3 _ => ?_
    generalize (l[i]).x = x at *
    refine (xP_IAarr ARR6 SZ_5 (show k < 6 by omega)).2 ?_
    rw [Nat.zero_add, Nat.mul_one]
    have hb6 := (hbH.kept hk5' (by simp)).kept hk6 (fun hm => hM6 H hm (by simp))
    have hg6 := (hbG.kept hk5' (by simp)).kept hk6 (fun hm => hM6 G hm (by simp))
    refine xE_store1 SZ_5 hb6 (by rw [flat_len encB_len]; omega) rfl fun w7 hb7 hk7 hz7 => ?_
    rw [flip_set] at hb7
    simp only [xP_nil, xP_pick, xP_func, xP_not, xP_add, xP_sub, xP_mul, xP_lss, xP_leq, xP_gtr, xP_geq, xP_max2, xP_min2, xR_eql, xR_neq, Nat.zero_add, Nat.add_zero, Nat.reduceAdd, List.getD_cons_zero, List.getD_cons_succ, xIf_true, xIf_false, FA_44_0, FA_44_1, FA_44_2, FA_44_3, FA_44_4, FA_44_5, FA_63_0, FA_63_1, FA_63_2, FA_63_3, FA_71_0, FA_71_1, FA_71_2, FA_71_3, FA_81_2, LEN_28, LEN_40, LEN_46, LEN_59, LEN_106]
    rw [wrap64 (by omega) (by omega)]
    refine ⟨⟨i + 1, _, _, rfl, by omega, by omega, by rw [List.length_set, hhs], h6.own hk7 (by simp) (by simp; exact hHw) (fun g hg => ⟨.inl hg, by have := h6.lt g hg; omega⟩), hb7, hg6.kept hk7 (by simp; exact fun e => hHG e.symm), hd, hsl, hrd.write hhs⟩, by omega⟩
  refine flushG h4 hd fun w5 M5 h5 hk5 hM5 => ?_
  have hbH5 := hbH.kept hk5 (fun hm => hM5 H hm (by simp))
  have hbG5 := hbG.kept hk5 (fun hm => hM5 G hm (by simp))
  have hsc : Sc D.flush 6 hs := fun k hk => by rw [flush_sec D (by omega)]; exact hrd k hk
  have hrd5 : Rd D.flush 6 hs := fun k hk => by rw [flush_read D (by omega)]; exact hrd k hk
  have hd5 : D.flush.dead = false := hd
  have hsl5 : D.flush.sec.length = 6 := by unfold Dk.flush; rw [drain_len, hsl]
  generalize D.flush = D at *
  refine (ldN (l := hs.flatMap encB) (by rw [flat_len encB_len, hhs]; exact AGG_41) hbH5.at).2 ?_
  refine xE_storeN (l1 := []) (l2 := (List.replicate 6 (0 : UInt8)).flatMap encB) (l3 := []) SZ_41 hbG5 rfl (by rw [flat_len encB_len]; simp) (by have := flat_len encB_len hs; simp [Value.cells] at this ⊢; omega) (by intro u hu; simp [Value.cells] at hu; obtain ⟨y, _, hy⟩ := hu; exact encB_one y u hy) fun w6 hb6 hk6 hz6 => ?_
  have hbG6 : Blk w6 G 41 (hs.flatMap encB) := by simpa [Value.cells] using hb6
  have hbH6 := hbH5.kept hk6 (by simp; exact hHG)
  have h6 := h5.own hk6 (by simp) (by simp; exact hGw) (fun g hg => ⟨.inl hg, by have := h5.lt g hg; omega⟩ : ∀ g ∈ [H, G], _)
  refine xLoop_of (fun ls w' => ∃ (i : Nat) (D : Dk) (gs : List UInt8), ls = [.int .i64 i] ∧ i ≤ more.length ∧ i ≤ 20 ∧ gs.length = 6 ∧ DX w w' p D [H, G] ∧ Blk w' H 41 (hs.flatMap encB) ∧ Blk w' G 41 (gs.flatMap encB) ∧ D.dead = false ∧ D.sec.length = 6 ∧ Rd D 6 gs ∧ Sc D 6 hs)
    (fun ls _ => match ls with | [.int _ i] => 20 - i.toNat | _ => 0) ⟨0, D, hs, rfl, by omega, by omega, hhs, h6, hbH6, hbG6, hd5, hsl5, hrd5, hsc⟩ ?_
  clear hrd5 hsc hd5 hsl5 h6 hbH6 hbG6 hrd
  rintro _ _ w7 ⟨i, D, gs, rfl, hi, hi20, hgs, h7, hbH7, hbG7, hd7, hsl7, hrd7, hsc7⟩
  refine askT fun _ => ?_
  simp only [List.getD_cons_zero, xIf_dec]
  refine ⟨fun hgo => ?_, fun hstop => ?_⟩
  · have hil := hgo.1
    refine rowDA.fldA hmore h7.k0 hil (show fieldB Tryd.prog 44 1 1 = true by kernel_rfl) ONE_3 (u := .int .i64 (more[i]).i) rfl fun A1 _ => ?_
    refine withinN (by omega) (by omega) (by omega) fun k _ _ hk5 => ?_
    refine rowDA.fldA hmore h7.k0 hil (show fieldB Tryd.prog 44 3 3 = true by kernel_rfl) ONE_5 (u := .int .u8 (more[i]).x.toNat) rfl fun A2 _ => ?_
    refine sectorS fun sv w8 hsv hk8 _ => ?_
    refine writeG (h7.next hk8) hsv (all_len _) hd7 (by omega) fun w9 M h9 hk9 hM9 => ?_
    refine rowDA.fldA hmore h9.k0 hil (show fieldB Tryd.prog 44 3 3 = true by kernel_rfl) ONE_5 (u := .int .u8 (more[i]).x.toNat) rfl fun A3 _ => ?_
    generalize (more[i]).x = x at *
    refine (xP_IAarr ARR6 SZ_5 (show k < 6 by omega)).2 ?_
    rw [Nat.zero_add, Nat.mul_one]
    have hb9 := (hbH7.kept hk8 (by simp)).kept hk9 (fun hm => hM9 H hm (by simp))
    have hg9 := (hbG7.kept hk8 (by simp)).kept hk9 (fun hm => hM9 G hm (by simp))
    refine xE_store1 SZ_5 hg9 (by rw [flat_len encB_len]; omega) rfl fun w10 hb10 hk10 hz10 => ?_
    rw [flip_set] at hb10
    simp only [xP_nil, xP_pick, xP_func, xP_not, xP_add, xP_sub, xP_mul, xP_lss, xP_leq, xP_gtr, xP_geq, xP_max2, xP_min2, xR_eql, xR_neq, Nat.zero_add, Nat.add_zero, Nat.reduceAdd, List.getD_cons_zero, List.getD_cons_succ, xIf_true, xIf_false, FA_44_0, FA_44_1, FA_44_2, FA_44_3, FA_44_4, FA_44_5, FA_63_0, FA_63_1, FA_63_2, FA_63_3, FA_71_0, FA_71_1, FA_71_2, FA_71_3, FA_81_2, LEN_28, LEN_40, LEN_46, LEN_59, LEN_106]
    rw [wrap64 (by omega) (by omega)]
    refine ⟨⟨i + 1, _, _, rfl, by omega, by omega, by rw [List.length_set, hgs], h9.own hk10 (by simp) (by simp; exact hGw) (fun g hg => ⟨.inl hg, by have := h9.lt g hg; omega⟩), hb9.kept hk10 (by simp; exact hHG), hb10, hd7, hsl7, hrd7.write hgs, hsc7.write⟩, by omega⟩
  refine waitsD h7 fun wv w8 hwv hk8 _ => ?_
  have h8 := h7.next hk8
  have hwl := ws_le D
  obtain ⟨wa, wc, rfl, _, _⟩ := hwv
  have hwl2 : (intsOf D.ws).length ≤ 6 := by simp [intsOf]; omega
  simp only [xP_nil, xP_pick, xP_func, xP_not, xP_add, xP_sub, xP_mul, xP_lss, xP_leq, xP_gtr, xP_geq, xP_max2, xP_min2, xR_eql, xR_neq, Nat.zero_add, Nat.add_zero, Nat.reduceAdd, List.getD_cons_zero, List.getD_cons_succ, xIf_true, xIf_false, FA_44_0, FA_44_1, FA_44_2, FA_44_3, FA_44_4, FA_44_5, FA_63_0, FA_63_1, FA_63_2, FA_63_3, FA_71_0, FA_71_1, FA_71_2, FA_71_3, FA_81_2, LEN_28, LEN_40, LEN_46, LEN_59, LEN_106]
  refine crashD h8 fun _ w9 M9 h9 hk9 hM9 => ?_
  have hbH9 := (hbH7.kept hk8 (by simp)).kept hk9 (fun hm => hM9 H hm (by simp))
  have hbG9 := (hbG7.kept hk8 (by simp)).kept hk9 (fun hm => hM9 G hm (by simp))
  have hread : ∀ k, k < 6 → (D.crash bits).read k = all (hs.getD k 0) ∨ (D.crash bits).read k = all (gs.getD k 0) := by
    intro k hk
    unfold Dk.crash
    rw [drain_read D _ (by omega)]
    split
    · cases hw : D.wt k with
      | none => exact .inl (hsc7 k hk)
      | some x =>
        right
        have := hrd7 k hk
        unfold Dk.read at this
        rw [hw] at this
        exact this
    · exact .inl (hsc7 k hk)
  have hd9 : (D.crash bits).dead = false := hd7
  have hsl9 : (D.crash bits).sec.length = 6 := by unfold Dk.crash; rw [drain_len, hsl7]
  have hws9 : (D.crash bits).ws = [] := drain_ws _ _
  generalize D.crash bits = D2 at *
  refine xJoin_of (fun ls w' => ls = [.bool false] ∧ Kept [] w9 w') ?_ ?_
  · refine waitsD h9 fun uv w10 huv hk10 _ => ?_
    rw [hws9] at huv
    obtain ⟨ua, uc, rfl, _, _⟩ := huv
    simp only [xP_nil, xP_pick, xP_func, xP_not, xP_add, xP_sub, xP_mul, xP_lss, xP_leq, xP_gtr, xP_geq, xP_max2, xP_min2, xR_eql, xR_neq, Nat.zero_add, Nat.add_zero, Nat.reduceAdd, List.getD_cons_zero, List.getD_cons_succ, xIf_true, xIf_false, FA_44_0, FA_44_1, FA_44_2, FA_44_3, FA_44_4, FA_44_5, FA_63_0, FA_63_1, FA_63_2, FA_63_3, FA_71_0, FA_71_1, FA_71_2, FA_71_3, FA_81_2, LEN_28, LEN_40, LEN_46, LEN_59, LEN_106]
    have e0 : (intsOf []).length = 0 := rfl
    rw [e0]
    simp only [show decide (((0 : Nat) : Int) ≠ 0) = false from rfl, xIf_false]
    rw [decide_eq_false (by omega)]
    exact ⟨rfl, hk10⟩
  rintro _ _ w10 ⟨rfl, hk10⟩
  simp only [List.getD_cons_zero, xIf_false]
  refine xLoop_of (fun ls w' => ∃ (k : Nat) (X : List Nat), ls = [.int .i64 k] ∧ k ≤ 6 ∧ DX w w' p D2 X ∧ Kept [] w10 w') (fun ls _ => match ls with | [.int _ k] => 6 - k.toNat | _ => 0) ⟨0, _, rfl, by omega, h9.next hk10, Kept.refl _ _⟩ ?_
  rintro _ _ w11 ⟨k, X, rfl, hk, h11, hk11⟩
  simp only [xP_nil, xP_pick, xP_func, xP_not, xP_add, xP_sub, xP_mul, xP_lss, xP_leq, xP_gtr, xP_geq, xP_max2, xP_min2, xR_eql, xR_neq, Nat.zero_add, Nat.add_zero, Nat.reduceAdd, List.getD_cons_zero, List.getD_cons_succ, xIf_true, xIf_false, FA_44_0, FA_44_1, FA_44_2, FA_44_3, FA_44_4, FA_44_5, FA_63_0, FA_63_1, FA_63_2, FA_63_3, FA_71_0, FA_71_1, FA_71_2, FA_71_3, FA_81_2, LEN_28, LEN_40, LEN_46, LEN_59, LEN_106, xIf_dec]
  refine ⟨fun hlt => ?_, fun hge => dRunsG hgl h11.k0⟩
  have hk6 : k < 6 := by omega
  refine readG h11 hd9 (by omega) fun b w12 X12 h12 hk12 _ hb12 => ?_
  simp only [xP_ex0, xP_ex1]
  have hk912 := (hk10.then hk11 (by simp)).then hk12 (by simp)
  have hlen : (D2.read k).length = 128 := by rcases hread k hk6 with h | h <;> rw [h, all_len]
  refine xJoin_of (fun ls w' => ls = [.bool false] ∧ Kept [] w12 w') ?_ ?_
  · refine (xR_neqN IFE).2 ?_
    simp only [xIf_false]
    refine (xP_IAarr ARR6 SZ_5 hk6).2 ?_
    rw [Nat.zero_add, Nat.mul_one]
    refine (ld1 ONE_5 (((hbH9.kept hk912 (by simp)).cell (o := k)).trans (getD_cell (by omega)))).2 ?_
    refine sectorS fun sv w13 hsv hk13 _ => ?_
    refine sameBS (hb12.kept0 hk13).1 hsv (by omega) fun w14 hk14 => ?_
    have hk1214 := hk13.then hk14 (by simp)
    by_cases hh : D2.read k = all (hs.getD k 0)
    · rw [decide_eq_true hh]
      simp only [xP_not, Bool.not_true, xIf_false]
      exact ⟨trivial, hk1214⟩
    · rw [decide_eq_false hh]
      simp only [xP_not, Bool.not_false, xIf_true]
      refine (xP_IAarr ARR6 SZ_5 hk6).2 ?_
      rw [Nat.zero_add, Nat.mul_one]
      refine (ld1 ONE_5 (((hbG9.kept (hk912.then hk1214 (by simp)) (by simp)).cell (o := k)).trans (getD_cell (by omega)))).2 ?_
      refine sectorS fun sv w15 hsv hk15 _ => ?_
      refine sameBS ((hb12.kept0 hk1214).kept0 hk15).1 hsv (by omega) fun w16 hk16 => ?_
      rw [decide_eq_true ((hread k hk6).resolve_left hh)]
      refine xP_not.2 ?_
      exact ⟨rfl, (hk1214.then hk15 (by simp)).then hk16 (by simp)⟩
  rintro _ _ w13 ⟨rfl, hk13⟩
  simp only [List.getD_cons_zero, xIf_false]
  rw [wrap64 (by omega) (by omega)]
  exact ⟨⟨k + 1, X12, rfl, by omega, h12.next hk13, (hk11.then hk12 (by simp)).then hk13 (by simp)⟩, by omega⟩
end Go.Proofs.YthmjjdfjegjfeaaDoor
