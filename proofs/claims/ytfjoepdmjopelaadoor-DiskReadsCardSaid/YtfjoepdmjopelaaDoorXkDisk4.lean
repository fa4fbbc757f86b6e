import Derived.Test.YtfjoepdmjopelaaDoorXkDisk3
namespace Go.Proofs.YtfjoepdmjopelaaDoor
set_option linter.unusedSimpArgs false
set_option linter.unusedVariables false
set_option maxRecDepth 100000
attribute [local irreducible] Go.X.xE
open Go Go.X Go.RowKit

/-! ## A disk, and blocks beside it -/
/-- A disk that was made after w0; none of its blocks is of X. -/
def DX (w0 w : World) (p : Nat) (D : Dk) (X : List Nat) : Prop := ∃ F, DkI 53 w p D F ∧ (∀ g ∈ F, w0.heap.size ≤ g) ∧ (∀ g ∈ F, g ∉ X) ∧ (∀ g ∈ X, g < w.heap.size) ∧ Kept [] w0 w
section
variable {w0 w w' : World} {p : Nat} {D D' : Dk} {X X' M F F' : List Nat} {K : Value → World → Prop}
theorem DX.lt (h : DX w0 w p D X) : ∀ g ∈ X, g < w.heap.size := by
  obtain ⟨F, _, _, _, h4, _⟩ := h; exact h4
theorem DX.k0 (h : DX w0 w p D X) : Kept [] w0 w := by
  obtain ⟨F, _, _, _, _, h5⟩ := h; exact h5
theorem DX.secs (h : DX w0 w p D X) : 0 < D.sec.length ∧ D.sec.length ≤ 128 ∧ ∀ x ∈ D.sec, x.length = 128 := by
  obtain ⟨F, h1, _⟩ := h; exact h1.secs
theorem DX.waits (h : DX w0 w p D X) : ∀ i x, D.wt i = some x → i < D.sec.length ∧ x.length = 128 := by
  obtain ⟨F, h1, _⟩ := h; exact h1.waits
theorem DX.next (h : DX w0 w p D X) (hk : Kept [] w w') : DX w0 w' p D X := by
  obtain ⟨F, h1, h2, h3, h4, h5⟩ := h
  exact ⟨F, h1.kept0 hk, h2, h3, fun g hg => Nat.lt_of_lt_of_le (h4 g hg) hk.size, h5.then hk (by simp)⟩
/-- A change of blocks beside the disk. -/
theorem DX.own (h : DX w0 w p D X) (hk : Kept M w w') (hM : ∀ g ∈ M, g ∈ X) (hM0 : ∀ g ∈ M, w0.heap.size ≤ g) (hX : ∀ g ∈ X', (g ∈ X ∨ w.heap.size ≤ g) ∧ g < w'.heap.size) : DX w0 w' p D X' := by
  obtain ⟨F, h1, h2, h3, h4, h5⟩ := h
  have hlt := h1.lt
  exact ⟨F, h1.kept hk (fun g hg hm => h3 g hg (hM g hm)), h2, fun g hg hx => (hX g hx).1.elim (h3 g hg) (fun hh => by have := hlt g hg; omega), fun g hg => (hX g hg).2, h5.then hk (fun g hg => .inr (hM0 g hg))⟩
/-- More blocks that are looked after: new ones. -/
theorem DX.more (h : DX w0 w p D X) (hk : Kept [] w w') (hX : ∀ g ∈ X', (g ∈ X ∨ w.heap.size ≤ g) ∧ g < w'.heap.size) : DX w0 w' p D X' := h.own hk (by simp) (by simp) hX
theorem DX.step (h1 : DkI 53 w p D F) (h2 : ∀ g ∈ F, w0.heap.size ≤ g) (h3 : ∀ g ∈ F, g ∉ X) (h4 : ∀ g ∈ X, g < w.heap.size) (h5 : Kept [] w0 w)
    (hL : DkI 53 w' p D' F') (hk : Kept F w w') (hF : ∀ g ∈ F', g ∈ F ∨ w.heap.size ≤ g) : DX w0 w' p D' X :=
  ⟨F', hL, fun g hg => (hF g hg).elim (h2 g) (fun h => by have := h5.size; omega), fun g hg hx => (hF g hg).elim (fun h => h3 g h hx) (fun h => by have := h4 g hx; omega), fun g hg => Nat.lt_of_lt_of_le (h4 g hg) hk.size, h5.then hk (fun g hg => .inr (h2 g hg))⟩
theorem newD {n : Int} (h1 : 1 ≤ n) (h2 : n ≤ 128) (k : ∀ p w', DX w w' p (Dk.new n.toNat) [] → Kept [] w w' → K (.tuple #[.pointer (some ⟨p, 0, none⟩), .nilIface]) w') : xE Tryd.prog (sCall 4 #[.int .i64 n]) w K := by
  refine xE_call CF_4 dnew_ok ?_
  rintro u w' ⟨hk, h⟩
  rcases h with ⟨h, _⟩ | ⟨_, _, p, F, rfl, hL, hF⟩
  · exact absurd ⟨h1, h2⟩ h
  · exact k p w' ⟨F, hL, hF, by simp, by simp, hk⟩ hk
theorem writeD {i : Int} {bv : Value} {b : List UInt8} (h : DX w0 w p D X) (hb : SlT w encB bv b) (k : ∀ w' M, DX w0 w' p (if D.refK i (decide (b.length ≠ 128)) = 0 then D.write i.toNat b else D) X → Kept M w w' → (∀ g ∈ M, g ∉ X) → K (optV (dEr opDW i (D.refK i (decide (b.length ≠ 128))))) w') :
    xE Tryd.prog (sCall 7 #[.pointer (some ⟨p, 0, none⟩), .int .i64 i, bv]) w K := by
  obtain ⟨F, h1, h2, h3, h4, h5⟩ := h
  refine xE_call CF_7 (write_ok h1 hb) ?_
  rintro _ w' ⟨F', rfl, hL, hk, hF⟩
  exact k w' F (DX.step h1 h2 h3 h4 h5 hL hk hF) hk h3
theorem refK_ok (hd : D.dead = false) {i : Nat} (hi : i < D.sec.length) : D.refK (i : Int) false = 0 := by
  unfold Dk.refK
  rw [hd, if_neg (by simp), if_neg (by simp; omega)]
/-- A write that is done. -/
theorem writeG {i : Nat} {bv : Value} {b : List UInt8} (h : DX w0 w p D X) (hb : SlT w encB bv b) (hl : b.length = 128) (hd : D.dead = false) (hi : i < D.sec.length) (k : ∀ w' M, DX w0 w' p (D.write i b) X → Kept M w w' → (∀ g ∈ M, g ∉ X) → K .nilIface w') :
    xE Tryd.prog (sCall 7 #[.pointer (some ⟨p, 0, none⟩), .int .i64 i, bv]) w K := by
  refine writeD h hb fun w' M h' hk hM => ?_
  rw [show decide (b.length ≠ 128) = false from decide_eq_false (by omega), refK_ok hd hi, if_pos rfl, Int.toNat_natCast] at h'
  rw [show decide (b.length ≠ 128) = false from decide_eq_false (by omega), refK_ok hd hi]
  exact k w' M h' hk hM
/-- What was read: its block, if it has one, is of X. -/
def BX (w : World) (v : Value) (x : List UInt8) (X : List Nat) : Prop := SlT w encB v x ∧ (x = [] ∨ ∃ b o c, v = .slice (some ⟨b, o, none⟩) x.length c ∧ b ∈ X)
theorem BX.kept {v : Value} {x : List UInt8} (h : BX w v x X) (hk : Kept M w w') (hM : ∀ g ∈ M, g ∉ X) : BX w' v x X := by
  obtain ⟨h1, h2⟩ := h
  refine ⟨?_, h2⟩
  rcases h2 with rfl | ⟨b, o, c, rfl, hb⟩
  · obtain ⟨a, c, e, hc, _⟩ := h1
    exact ⟨a, c, e, hc, .inl rfl⟩
  · exact h1.kept hk (fun b' o' n' c' e hm => by cases e; exact hM b hm hb)
theorem BX.more {v : Value} {x : List UInt8} (h : BX w v x X) (hX : ∀ g ∈ X, g ∈ X') : BX w v x X' := ⟨h.1, h.2.imp id (fun ⟨b, o, c, e, hb⟩ => ⟨b, o, c, e, hX b hb⟩)⟩
theorem BX.kept0 {v : Value} {x : List UInt8} (h : BX w v x X) (hk : Kept [] w w') : BX w' v x X := h.kept hk (by simp)
theorem readD {i : Int} (h : DX w0 w p D X) (k : ∀ v w' X', DX w0 w' p D X' → Kept [] w w' → (∀ g ∈ X, g ∈ X') → BX w' v (if D.refK i false = 0 then D.read i.toNat else []) X' → K (.tuple #[v, optV (dEr opDR i (D.refK i false))]) w') :
    xE Tryd.prog (sCall 9 #[.pointer (some ⟨p, 0, none⟩), .int .i64 i]) w K := by
  have hX0 := h.lt
  obtain ⟨F, h1, h2, h3, h4, h5⟩ := h
  refine xE_call CF_9 (read_ok h1) ?_
  rintro _ w' ⟨v, rfl, hs, hk, hf⟩
  have hh : DX w0 w p D X := ⟨F, h1, h2, h3, h4, h5⟩
  generalize (if D.refK i false = 0 then D.read i.toNat else []) = x at *
  obtain ⟨a, c, rfl, hc, hr⟩ := hs
  rcases hr with rfl | ⟨b, o, rfl, hat⟩
  · exact k _ w' X (hh.next hk) hk (fun g hg => hg) ⟨⟨a, c, rfl, hc, .inl rfl⟩, .inl rfl⟩
  · by_cases hx : x = []
    · subst hx
      exact k _ w' X (hh.next hk) hk (fun g hg => hg) ⟨⟨_, c, rfl, hc, .inl rfl⟩, .inl rfl⟩
    · have hb := hf b o _ _ rfl
      have hbl : b < w'.heap.size := by
        have h0 : 0 < (x.flatMap encB).length := by rw [flat_len encB_len]; have := List.length_pos_iff.2 hx; omega
        have := hat 0 h0
        rw [List.getElem?_eq_getElem h0] at this
        simpa using block_lt_of_cell this
      refine k _ w' (b :: X) (hh.more hk fun g hg => ?_) hk (fun g hg => List.mem_cons_of_mem _ hg) ⟨⟨_, c, rfl, hc, .inr ⟨b, o, rfl, hat⟩⟩, .inr ⟨b, o, c, rfl, List.mem_cons_self⟩⟩
      rcases List.mem_cons.1 hg with rfl | hg
      · exact ⟨.inr hb, hbl⟩
      · have := hX0 g hg; have := hk.size; exact ⟨.inl hg, by omega⟩
/-- A read that is done. -/
theorem readG {i : Nat} (h : DX w0 w p D X) (hd : D.dead = false) (hi : i < D.sec.length) (k : ∀ v w' X', DX w0 w' p D X' → Kept [] w w' → (∀ g ∈ X, g ∈ X') → BX w' v (D.read i) X' → K (.tuple #[v, .nilIface]) w') :
    xE Tryd.prog (sCall 9 #[.pointer (some ⟨p, 0, none⟩), .int .i64 i]) w K := by
  refine readD h fun v w' X' h' hk hX hb => ?_
  rw [refK_ok hd hi, if_pos rfl, Int.toNat_natCast] at hb
  rw [refK_ok hd hi]
  exact k v w' X' h' hk hX hb
theorem flushD (h : DX w0 w p D X) (k : ∀ w' M, DX w0 w' p (if D.dead then D else D.drain fun j => (D.wt j).isSome) X → Kept M w w' → (∀ g ∈ M, g ∉ X) → K (optV (dEr opDF 0 (D.refK 0 false))) w') :
    xE Tryd.prog (sCall 6 #[.pointer (some ⟨p, 0, none⟩)]) w K := by
  obtain ⟨F, h1, h2, h3, h4, h5⟩ := h
  refine xE_call CF_6 (flush_ok h1) ?_
  rintro _ w' ⟨F', rfl, hL, hk, hF⟩
  exact k w' F (DX.step h1 h2 h3 h4 h5 hL hk hF) hk h3
def Dk.flush (D : Dk) : Dk := D.drain fun j => (D.wt j).isSome
def Dk.crash (D : Dk) (bits : Int) : Dk := D.drain (D.crashS bits)
theorem flushG (h : DX w0 w p D X) (hd : D.dead = false) (k : ∀ w' M, DX w0 w' p D.flush X → Kept M w w' → (∀ g ∈ M, g ∉ X) → K .nilIface w') :
    xE Tryd.prog (sCall 6 #[.pointer (some ⟨p, 0, none⟩)]) w K := by
  have hs := h.secs
  refine flushD h fun w' M h' hk hM => ?_
  rw [hd, if_neg (by simp)] at h'
  have := refK_ok hd hs.1
  rw [show ((0 : Nat) : Int) = 0 from rfl] at this
  rw [this]
  exact k w' M h' hk hM
theorem crashD {bits : Int} (h : DX w0 w p D X) (k : ∀ v w' M, DX w0 w' p (D.crash bits) X → Kept M w w' → (∀ g ∈ M, g ∉ X) → K v w') :
    xE Tryd.prog (sCall 23 #[.pointer (some ⟨p, 0, none⟩), .int .u64 bits]) w K := by
  obtain ⟨F, h1, h2, h3, h4, h5⟩ := h
  refine xE_call CF_23 (crash_ok h1) ?_
  rintro v w' ⟨F', hL, hk, hF⟩
  exact k v w' F (DX.step h1 h2 h3 h4 h5 hL hk hF) hk h3
theorem rotD {i a c : Int} (h : DX w0 w p D X) (k : ∀ w' M, DX w0 w' p (if D.rotBad i a c then D else D.rotd i.toNat a.toNat c) X → Kept M w w' → (∀ g ∈ M, g ∉ X) → K (.bool (!D.rotBad i a c)) w') :
    xE Tryd.prog (sCall 24 #[.pointer (some ⟨p, 0, none⟩), .int .i64 i, .int .i64 a, .int .u32 c]) w K := by
  obtain ⟨F, h1, h2, h3, h4, h5⟩ := h
  refine xE_call CF_24 (rot_ok h1) ?_
  rintro _ w' ⟨F', rfl, hL, hk, hF⟩
  exact k w' F (DX.step h1 h2 h3 h4 h5 hL hk hF) hk h3
theorem dieD (h : DX w0 w p D X) (k : ∀ v w' M, DX w0 w' p (D.blank true) X → Kept M w w' → (∀ g ∈ M, g ∉ X) → K v w') :
    xE Tryd.prog (sCall 25 #[.pointer (some ⟨p, 0, none⟩)]) w K := by
  obtain ⟨F, h1, h2, h3, h4, h5⟩ := h
  refine xE_call CF_25 (die_ok h1) ?_
  rintro v w' ⟨F', hL, hk, hF⟩
  exact k v w' F (DX.step h1 h2 h3 h4 h5 hL hk hF) hk h3
theorem waitsD (h : DX w0 w p D X) (k : ∀ v w', SlT w' encI v (intsOf D.ws) → Kept [] w w' → (∀ b o n c, v = .slice (some ⟨b, o, none⟩) n c → w.heap.size ≤ b) → K v w') : xE Tryd.prog (sCall 11 #[.pointer (some ⟨p, 0, none⟩)]) w K := by
  obtain ⟨F, h1, _⟩ := h
  refine xE_call CF_11 (waits_ok h1) ?_
  rintro v w' ⟨h2, h3, hk⟩
  exact k v w' h2 hk h3
end
/-- A sector all of one byte. -/
def all (x : UInt8) : List UInt8 := List.replicate 128 x
theorem all_len (x : UInt8) : (all x).length = 128 := by simp [all]
theorem sector_ok {x : UInt8} {w : World} : Gives Tryd.prog 8 #[.int .u8 x.toNat] w fun u w' => ∃ r : Rw, u = r.v ∧ r.Ok w' ∧ r.b = w.heap.size ∧ r.x = all x ∧ Kept [] w w' := by
  refine C_stavelaw6_sector ?_
  unfold S_stavelaw6_sector
  refine xE_make EL_36 (l := 128) (by omega) (by unfold maxLen; omega) fun w1 hb1 hk1 hz1 => ?_
  simp only [xP_nil, xP_pick, xP_func, xP_not, xP_add, xP_sub, xP_mul, xP_lss, xP_leq, xP_gtr, xP_geq, xP_max2, xP_min2, xR_eql, xR_neq, Nat.zero_add, Nat.add_zero, Nat.reduceAdd, List.getD_cons_zero, List.getD_cons_succ, xIf_true, xIf_false, FA_33_0, FA_33_1, FA_33_3, FA_53_0, FA_53_1, FA_53_2, FA_53_3, FA_61_0, FA_61_1, FA_61_2, LEN_22, LEN_36, LEN_41, LEN_50, LEN_58, LEN_94]
  refine xLoop_of (fun ls w' => ∃ i : Nat, ls = [.int .i64 i] ∧ i ≤ 128 ∧ Blk w' w.heap.size 5 (((List.replicate i x ++ List.replicate (128 - i) 0).flatMap encB)) ∧ Kept [] w w') (fun ls _ => match ls with | [.int _ i] => 128 - i.toNat | _ => 0) ⟨0, rfl, by omega, hb1, hk1⟩ ?_
  rintro _ _ w2 ⟨i, rfl, hi, hb2, hk2⟩
  simp only [xP_nil, xP_pick, xP_func, xP_not, xP_add, xP_sub, xP_mul, xP_lss, xP_leq, xP_gtr, xP_geq, xP_max2, xP_min2, xR_eql, xR_neq, Nat.zero_add, Nat.add_zero, Nat.reduceAdd, List.getD_cons_zero, List.getD_cons_succ, xIf_true, xIf_false, FA_33_0, FA_33_1, FA_33_3, FA_53_0, FA_53_1, FA_53_2, FA_53_3, FA_61_0, FA_61_1, FA_61_2, LEN_22, LEN_36, LEN_41, LEN_50, LEN_58, LEN_94, xIf_dec]
  refine ⟨fun hlt => ?_, fun hge => ?_⟩
  · have hil : i < 128 := by omega
    refine (xP_IAn SL_36 SZ_5 hil).2 ?_
    simp only [xP_nil, xP_pick, xP_func, xP_not, xP_add, xP_sub, xP_mul, xP_lss, xP_leq, xP_gtr, xP_geq, xP_max2, xP_min2, xR_eql, xR_neq, Nat.zero_add, Nat.add_zero, Nat.reduceAdd, List.getD_cons_zero, List.getD_cons_succ, xIf_true, xIf_false, FA_33_0, FA_33_1, FA_33_3, FA_53_0, FA_53_1, FA_53_2, FA_53_3, FA_61_0, FA_61_1, FA_61_2, LEN_22, LEN_36, LEN_41, LEN_50, LEN_58, LEN_94, Nat.mul_one]
    refine xE_store1 SZ_5 hb2 (by rw [flat_len encB_len]; simp; omega) rfl fun w3 hb3 hk3 hz3 => ?_
    rw [flip_set] at hb3
    have e : (List.replicate i x ++ List.replicate (128 - i) 0).set i x = List.replicate (i + 1) x ++ List.replicate (128 - (i + 1)) 0 := by
      rw [List.set_append_right _ _ (by simp), List.length_replicate, Nat.sub_self, show 128 - i = (128 - (i + 1)) + 1 by omega, List.replicate_succ, List.set_cons_zero, List.replicate_succ', List.append_assoc]
      rfl
    rw [e] at hb3
    rw [wrap64 (by omega) (by omega)]
    exact ⟨⟨i + 1, rfl, by omega, hb3, hk2.then hk3 (by simp)⟩, by omega⟩
  · obtain rfl : i = 128 := by omega
    rw [Nat.sub_self, List.replicate_zero, List.append_nil] at hb2
    refine ⟨⟨.slice (some ⟨w.heap.size, 0, none⟩) 128 128, w.heap.size, all x⟩, rfl, ⟨own_of_blk hb2 (by rw [flat_len encB_len]; show (all x).length * 1 = _; rw [all_len]) (by unfold maxLen; omega), all_len x⟩, rfl, rfl, hk2⟩
theorem sectorS {x : UInt8} {w : World} {K : Value → World → Prop} (k : ∀ v w', SlT w' encB v (all x) → Kept [] w w' → (∀ b o n c, v = .slice (some ⟨b, o, none⟩) n c → w.heap.size ≤ b) → K v w') : xE Tryd.prog (sCall 8 #[.int .u8 x.toNat]) w K := by
  refine xE_call CF_8 sector_ok ?_
  rintro _ w' ⟨r, rfl, hr, hb, hx, hk⟩
  obtain ⟨o, c, e⟩ := hr.some
  exact k _ w' (hx ▸ hr.slT) hk (fun b o' n c' e' => by rw [e] at e'; cases e'; omega)
theorem sameBS {x y : List UInt8} {a b : Value} {w : World} {K : Value → World → Prop} (ha : SlT w encB a x) (hb : SlT w encB b y) (hl : x.length ≤ 1000000) (k : ∀ w', Kept [] w w' → K (.bool (decide (x = y))) w') : xE Tryd.prog (sCall 10 #[a, b]) w K :=
  xE_call CF_10 (sameB_ok ha hb (by omega)) (fun u w' ⟨e, hk⟩ => by subst e; exact k w' hk)
theorem all_inj {x y : UInt8} : all x = all y ↔ x = y := by
  constructor
  · intro h
    have := congrArg (fun l : List UInt8 => l.getD 0 0) h
    simpa [all] using this
  · intro h; rw [h]
theorem noughts_all : noughts = all 0 := rfl

/-! ## DiskRuns -/
def dr (i : Nat) : Dk := ⟨List.replicate 3 noughts, fun j => if j < i then some (all 7) else none, fun _ => false, false⟩
theorem dr_write (i : Nat) : (dr i).write i (all 7) = dr (i + 1) := by
  unfold Dk.write dr
  congr 1
  funext j
  simp only
  by_cases h : j = i
  · rw [if_pos h, if_pos (by omega)]
  · rw [if_neg h]
    by_cases h2 : j < i
    · rw [if_pos h2, if_pos (by omega)]
    · rw [if_neg h2, if_neg (by omega)]
def dr2 : Dk := (dr 3).crash 2
theorem dr2_0 : dr2.read 0 = all 0 := by kernel_rfl
theorem dr2_1 : dr2.read 1 = all 7 := by kernel_rfl
theorem dr2_b : dr2.rotBad 1 0 5 = false := by kernel_rfl
theorem dr3_b : (dr2.rotd 1 0 5).rotBad 1 0 5 = true := by kernel_rfl
theorem diskRuns_ok {w : World} (hgl : Glob w) : Gives Tryd.prog 14 #[] w fun u w' => u = .bool true ∧ Kept [] w w' := by
  refine C_stavelaw6_DiskRuns ?_
  unfold S_stavelaw6_DiskRuns
  refine newD (by omega) (by omega) fun p w1 h1 _ => ?_
  simp only [xP_ex0, xP_ex1]
  refine xJoin_of (fun ls w' => ls = [.bool false] ∧ w1 = w') ?_ ?_
  · refine (xR_pnil PT_23).2 ?_
    simp only [Option.isNone_some, xIf_false]
    refine (xR_neqN IFE).2 ?_
    exact ⟨rfl, trivial⟩
  rintro _ _ _ ⟨rfl, rfl⟩
  simp only [List.getD_cons_zero, xIf_false]
  refine xLoop_of (fun ls w' => ∃ i : Nat, ls = [.int .i64 i] ∧ i ≤ 3 ∧ DX w w' p (dr i) []) (fun ls _ => match ls with | [.int _ i] => 3 - i.toNat | _ => 0) ⟨0, rfl, by omega, h1⟩ ?_
  rintro _ _ w2 ⟨i, rfl, hi, h2⟩
  simp only [xP_nil, xP_pick, xP_func, xP_not, xP_add, xP_sub, xP_mul, xP_lss, xP_leq, xP_gtr, xP_geq, xP_max2, xP_min2, xR_eql, xR_neq, Nat.zero_add, Nat.add_zero, Nat.reduceAdd, List.getD_cons_zero, List.getD_cons_succ, xIf_true, xIf_false, FA_33_0, FA_33_1, FA_33_3, FA_53_0, FA_53_1, FA_53_2, FA_53_3, FA_61_0, FA_61_1, FA_61_2, LEN_22, LEN_36, LEN_41, LEN_50, LEN_58, LEN_94, xIf_dec]
  refine ⟨fun hlt => ?_, fun hge => ?_⟩
  · refine sectorS (x := 7) fun v w3 hv hk3 _ => ?_
    refine writeG (h2.next hk3) hv (all_len 7) rfl (by show i < 3; omega) fun w4 M h4 _ _ => ?_
    rw [dr_write] at h4
    refine (xR_neqN IFE).2 ?_
    simp only [xIf_false]
    rw [wrap64 (by omega) (by omega)]
    exact ⟨⟨i + 1, rfl, by omega, h4⟩, by omega⟩
  · obtain rfl : i = 3 := by omega
    refine crashD h2 fun _ w3 _ h3 _ _ => ?_
    have h3 : DX w w3 p dr2 [] := h3
    refine readG (i := 0) h3 rfl (by show 0 < 3; omega) fun a w4 X4 h4 _ _ ha => ?_
    simp only [xP_ex0, xP_ex1]
    refine readG (i := 1) h4 rfl (by show 1 < 3; omega) fun b w5 X5 h5 hk5 hX5 hb => ?_
    have ha5 := (ha.kept0 hk5).more hX5
    rw [dr2_0] at ha5
    rw [dr2_1] at hb
    simp only [xP_ex0, xP_ex1]
    refine rotD h5 fun w6 M6 h6 hk6 hM6 => ?_
    rw [dr2_b] at h6
    have h6 : DX w w6 p (dr2.rotd 1 0 5) X5 := h6
    refine rotD h6 fun w7 M7 h7 hk7 hM7 => ?_
    refine dieD h7 fun _ w8 M8 h8 hk8 hM8 => ?_
    refine readD h8 fun c w9 X9 h9 hk9 hX9 _ => ?_
    have ha9 := (((ha5.kept hk6 hM6).kept hk7 hM7).kept hk8 hM8).kept0 hk9
    have hb9 := (((hb.kept hk6 hM6).kept hk7 hM7).kept hk8 hM8).kept0 hk9
    simp only [xP_ex0, xP_ex1]
    refine sectorS (x := 0) fun v w10 hv hk10 _ => ?_
    refine sameBS (ha9.kept0 hk10).1 hv (by rw [all_len]; omega) fun w11 hk11 => ?_
    simp only [decide_true, xIf_true]
    refine sectorS (x := 7) fun v w12 hv hk12 _ => ?_
    have hk912 := (hk10.then hk11 (by simp)).then hk12 (by simp)
    refine sameBS (hb9.kept0 hk912).1 hv (by rw [all_len]; omega) fun w13 hk13 => ?_
    have h13 := h9.next (hk912.then hk13 (by simp))
    rw [dr2_b, dr3_b]
    simp only [decide_true, xIf_true, Bool.not_false, Bool.not_true, xP_not]
    refine kindD (hgl.kept0 h13.k0) fun w14 hk14 => ?_
    simp only [xR_eql]
    exact ⟨rfl, (h13.next hk14).k0⟩
theorem dRunsG {w w' : World} (hg : Glob w) (hk : Kept [] w w') : xE Tryd.prog (sCall 14 #[]) w' fun v w'' => Ret (fun u w' => u = .bool true ∧ Kept [] w w') (.returned v) w'' := by
  refine xE_call CF_14 (diskRuns_ok (hg.kept0 hk)) ?_
  rintro _ w2 ⟨rfl, hk2⟩
  exact ⟨rfl, hk.then hk2 (by simp)⟩
end Go.Proofs.YtfjoepdmjopelaaDoor
