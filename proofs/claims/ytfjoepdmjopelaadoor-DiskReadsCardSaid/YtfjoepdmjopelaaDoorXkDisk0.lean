import Derived.Test.YtfjoepdmjopelaaDoorXkBook1
import Derived.Test.YtfjoepdmjopelaaDoorXkFaultPO
import Derived.Test.YtfjoepdmjopelaaDoorXEnt
namespace Go.Proofs.YtfjoepdmjopelaaDoor
set_option linter.unusedSimpArgs false
set_option linter.unusedVariables false
set_option maxRecDepth 100000
attribute [local irreducible] Go.X.xE
open Go Go.X Go.RowKit

/-! ## A disk, with no program in sight -/
structure Dk where
  sec : List (List UInt8)
  wt : Nat → Option (List UInt8)
  rot : Nat → Bool
  dead : Bool
def noughts : List UInt8 := List.replicate 128 0
def Dk.blank (D : Dk) (dead : Bool) : Dk := ⟨List.replicate D.sec.length noughts, fun _ => none, fun _ => false, dead⟩
def Dk.new (n : Nat) : Dk := ⟨List.replicate n noughts, fun _ => none, fun _ => false, false⟩
/-- Sectors s get what waits for them; nothing waits any more. -/
def Dk.drain (D : Dk) (s : Nat → Bool) : Dk := ⟨D.sec.zipIdx.map fun q => if s q.2 then (D.wt q.2).getD q.1 else q.1, fun _ => none, fun j => if s j then false else D.rot j, D.dead⟩
def Dk.write (D : Dk) (i : Nat) (b : List UInt8) : Dk := { D with wt := fun j => if j = i then some b else D.wt j }
def Dk.refK (D : Dk) (i : Int) (wrong : Bool) : Int := if D.dead then 5 else if wrong ∨ i < 0 ∨ (D.sec.length : Int) ≤ i then 1 else 0
def Dk.read (D : Dk) (i : Nat) : List UInt8 := (D.wt i).getD (D.sec.getD i [])
def Dk.ws (D : Dk) : List Nat := (List.range D.sec.length).filter fun i => (D.wt i).isSome
def Dk.cnt (D : Dk) (i : Nat) : Nat := ((List.range i).filter fun i => (D.wt i).isSome).length
def bit1 (x : Int) (k : Nat) : Bool := decide (IntKind.u64.wrap ((BitVec.ofInt 64 (x / 2 ^ min k 64) &&& BitVec.ofInt 64 1).toNat : Nat) = 1)
def Dk.crashS (D : Dk) (bits : Int) (j : Nat) : Bool := (D.wt j).isSome && bit1 bits (D.cnt j % 64)
def byteOf (c : Int) (k : Nat) : UInt8 := UInt8.ofNat (c / 2 ^ min (8 * k) 32 % 256).toNat
def rotUp (x : List UInt8) (at_ : Nat) (c : Int) : Nat → List UInt8
  | 0 => x
  | k + 1 => (rotUp x at_ c k).set (at_ + k) ((rotUp x at_ c k).getD (at_ + k) 0 ^^^ byteOf c k)
def Dk.rotBad (D : Dk) (i at_ c : Int) : Bool := !decide (D.refK i (decide (at_ < 0 ∨ 124 < at_ ∨ c = 0)) = 0) || D.rot i.toNat
def Dk.rotd (D : Dk) (i at_ : Nat) (c : Int) : Dk := { D with sec := D.sec.set i (rotUp (D.sec.getD i []) at_ c 4), rot := fun j => if j = i then true else D.rot j }
def dEr (op : ByteArray) (i k : Int) : Option Er := if k = 0 then none else some (.flt op i (.no k))
theorem rotUp_len (x : List UInt8) (a : Nat) (c : Int) : ∀ k, (rotUp x a c k).length = x.length
  | 0 => rfl
  | k + 1 => by rw [rotUp, List.length_set, rotUp_len x a c k]
theorem drain_len (D : Dk) (s : Nat → Bool) : (D.drain s).sec.length = D.sec.length := by simp [Dk.drain]
theorem drain_get (D : Dk) (s : Nat → Bool) (i : Nat) : (D.drain s).sec[i]? = (D.sec[i]?).map fun x => if s i then (D.wt i).getD x else x := by
  simp only [Dk.drain, List.getElem?_map, List.getElem?_zipIdx, Nat.zero_add]
  cases D.sec[i]? <;> rfl
theorem optKind_dEr (op : ByteArray) (i k : Int) : optKind (dEr op i k) = k := by
  unfold dEr
  split
  · rename_i h; rw [h]; rfl
  · rfl
theorem dEr_plain {op : ByteArray} {i k : Int} : ∀ x, dEr op i k = some x → Er.plain x := by
  intro x hx
  unfold dEr at hx
  split at hx
  · cases hx
  · cases hx; trivial
theorem dEr_some {op : ByteArray} {i k : Int} : (dEr op i k).isSome = !decide (k = 0) := by
  unfold dEr
  split
  · rename_i h; rw [decide_eq_true h]; rfl
  · rename_i h; rw [decide_eq_false h]; rfl
theorem dEr_none {op : ByteArray} {i k : Int} : (dEr op i k).isNone = decide (k = 0) := by
  unfold dEr
  split
  · rename_i h; rw [decide_eq_true h]; rfl
  · rename_i h; rw [decide_eq_false h]; rfl
theorem kindD {op : ByteArray} {i k : Int} {w : World} {K : Value → World → Prop} (hg : Glob w) (c : ∀ w', Kept [] w w' → K (.int .i64 k) w') : xE Tryd.prog (sCall 13 #[optV (dEr op i k)]) w K :=
  kindS dEr_plain hg (fun w' hk => by rw [optKind_dEr]; exact c w' hk)

/-! ## Rows of bytes -/
structure Rw where
  v : Value
  b : Nat
  x : List UInt8
structure Rw.Ok (w : World) (r : Rw) : Prop where
  own : Own w 5 1 r.v 128 (r.x.flatMap encB) [r.b]
  len : r.x.length = 128
theorem Rw.Ok.kept {w w' : World} {r : Rw} {M : List Nat} (h : r.Ok w) (hk : Kept M w w') (hd : r.b ∉ M) : r.Ok w' := ⟨h.own.kept hk (by simpa using hd), h.len⟩
theorem Rw.Ok.lt {w : World} {r : Rw} (h : r.Ok w) : r.b < w.heap.size := h.own.lt _ (by simp)
theorem Rw.Ok.slT {w : World} {r : Rw} (h : r.Ok w) : SlT w encB r.v r.x := by
  have := h.own
  rw [← h.len] at this
  exact this.slT encB_len (by omega)
theorem Rw.Ok.one {w : World} {r : Rw} (h : r.Ok w) : r.v.oneCell' = true := h.slT.one
theorem Rw.Ok.some {w : World} {r : Rw} (h : r.Ok w) : ∃ o c, r.v = .slice (some ⟨r.b, o, none⟩) 128 c := by
  rcases h.own.2 with ⟨_, h0, _⟩ | ⟨g, o, cap, cur, e, hF, _⟩
  · omega
  · simp at hF
    exact ⟨o, cap, by rw [e, hF]⟩
theorem len128 : noughts.length = 128 := by simp [noughts]
theorem noughts_cells : noughts.flatMap encB = List.replicate 128 (.int .u8 0) := by kernel_rfl
/-- make([]byte, 128) -/
theorem makeRow {w : World} {K : Value → World → Prop} (k : ∀ (r : Rw) (w' : World), r.Ok w' → r.b = w.heap.size → r.x = noughts → Kept [] w w' → w'.heap.size = w.heap.size + 1 → K r.v w') : xE Tryd.prog (sMakeSlice 36 (.int .i64 128) (.int .i64 128)) w K := by
  refine xE_make EL_36 (l := 128) (by omega) (by unfold maxLen; omega) fun w1 hb1 hk1 hz1 => ?_
  refine k ⟨.slice (some ⟨w.heap.size, 0, none⟩) 128 128, w.heap.size, noughts⟩ w1 ⟨?_, len128⟩ rfl rfl hk1 hz1
  rw [noughts_cells]
  exact own_of_blk hb1 (by simp) (by unfold maxLen; omega)
/-- slices.Clone of a row of 128. -/
theorem xR_eqlSlNil {P : Program} {T E : TypeId} {w : World} {K : Value → Prop} {a : Addr} {n c : Nat} (h : P.underlying T = some (.slice E)) : xR P (sEq .eql T true (.slice (some a) n c) (.slice none 0 0)) w K ↔ K (.bool false) := by
  refine xR_of ?_
  unfold sEq
  refine run_sB P _ w ?_
  have : eqGuard .eql T (bif true then .const undef else .tmp 0) (.tmp 0) (.slice (some a) n c) (.slice none 0 0) = pure () := rfl
  rw [this]
  simp only [pure_bind]
  have e : ∀ d : Nat, (Op.equalIn (d + 1) T (.slice (some a) n c) (.slice none 0 0)).run P w = .ok false w := fun d => by
    simp [Op.equalIn, run_underlying h]
  have := e 9999
  simp [binOp, Op.equal, Op.maxDepth, this]
theorem U8S : Tryd.prog.underlying 36 = some (.slice 5) := by kernel_rfl
theorem copy128 {v : Value} {x : List UInt8} {w : World} {K : Value → World → Prop} (h : SlT w encB v x) (hx : x.length = 128) (k : ∀ (r : Rw) (w' : World), r.Ok w' → w.heap.size ≤ r.b → r.x = x → Kept [] w w' → K r.v w') :
    xE Tryd.prog (sBuildSlice 36 0 #[]) w fun a w1 => xE Tryd.prog (sB .append #[36, 36] #[a, v]) w1 fun u w' => K u w' := by
  refine xE_copy0 EL_36 encB_len encB_one h (by omega) (by unfold maxLen; omega) fun u w' F ho hF hk => ?_
  rw [hx] at ho
  rcases ho.2 with ⟨_, h0, _⟩ | ⟨g, o, cap, cur, e, hF1, hr⟩
  · omega
  · exact k ⟨u, g, x⟩ w' ⟨hF1 ▸ ho, hx⟩ (hF g (by rw [hF1]; simp)) rfl hk
theorem clone_ok {v : Value} {x : List UInt8} {w : World} (h : SlT w encB v x) (hx : x.length = 128) : Gives Tryd.prog 19 #[v] w fun u w' => ∃ r : Rw, u = r.v ∧ r.Ok w' ∧ w.heap.size ≤ r.b ∧ r.x = x ∧ Kept [] w w' := by
  refine C_slices_Clone_byte ?_
  unfold S_slices_Clone_byte
  obtain ⟨a, c, rfl, hc, hr⟩ := h
  obtain ⟨b, o, rfl, hat⟩ := hr.resolve_left (by intro h; subst h; simp at hx)
  refine (xR_eqlSlNil U8S).2 ?_
  simp only [xIf_false]
  refine copy128 ⟨_, c, rfl, hc, .inr ⟨b, o, rfl, hat⟩⟩ hx fun r w' h1 h2 h3 hk => ?_
  exact ⟨r, rfl, h1, h2, h3, hk⟩

/-! ## A disk in memory -/
def frm (p lb wm rm : Nat) (S : List Rw) (W : List (Int × Rw)) : List Nat := p :: lb :: wm :: rm :: (S.map Rw.b ++ W.map fun q => q.2.b)
/-- The disk's parts; C: what stands in the list of sectors. -/
structure Mid (T : TypeId) (w : World) (p lb o cap wm rm : Nat) (S : List Rw) (W : List (Int × Rw)) (R : List (Int × Bool)) (C : List Value) (dead : Bool) : Prop where
  blk : Blk w p T [.slice (some ⟨lb, o, none⟩) S.length cap, .map (some wm), .map (some rm), .bool dead]
  own : Own w 36 1 (.slice (some ⟨lb, o, none⟩) S.length cap) S.length C [lb]
  mw : MapOf w wm (fun r : Rw => r.v) W
  mr : MapOf w rm Value.bool R
  rs : ∀ r ∈ S, r.Ok w
  rw : ∀ q ∈ W, q.2.Ok w ∧ 0 ≤ q.1 ∧ q.1 < (S.length : Int)
  nd : (frm p lb wm rm S W).Nodup
  pos : 0 < S.length
  le : S.length ≤ 128
def Abs (S : List Rw) (W : List (Int × Rw)) (R : List (Int × Bool)) (D : Dk) : Prop := S.map Rw.x = D.sec ∧ (∀ i : Nat, (mget W (i : Int)).map Rw.x = D.wt i) ∧ ∀ i : Nat, (mget R (i : Int)).getD false = D.rot i
def DkI (T : TypeId) (w : World) (p : Nat) (D : Dk) (F : List Nat) : Prop := ∃ lb o cap wm rm S W R, Mid T w p lb o cap wm rm S W R (S.map Rw.v) D.dead ∧ Abs S W R D ∧ F = frm p lb wm rm S W
section
variable {T : TypeId} {w w' : World} {p lb o cap wm rm : Nat} {S : List Rw} {W : List (Int × Rw)} {R : List (Int × Bool)} {C : List Value} {dead : Bool} {M : List Nat}
theorem Mid.kept (h : Mid T w p lb o cap wm rm S W R C dead) (hk : Kept M w w') (hd : ∀ g ∈ frm p lb wm rm S W, g ∉ M) : Mid T w' p lb o cap wm rm S W R C dead :=
  ⟨h.blk.kept hk (hd p (by simp [frm])), h.own.kept hk (fun g hg => hd g (by simp at hg; subst hg; simp [frm])), h.mw.kept hk (hd wm (by simp [frm])), h.mr.kept hk (hd rm (by simp [frm])),
    fun r hr => (h.rs r hr).kept hk (hd r.b (by unfold frm; exact List.mem_cons_of_mem _ (List.mem_cons_of_mem _ (List.mem_cons_of_mem _ (List.mem_cons_of_mem _ (List.mem_append_left _ (List.mem_map_of_mem hr))))))),
    fun q hq => ⟨(h.rw q hq).1.kept hk (hd q.2.b (by unfold frm; exact List.mem_cons_of_mem _ (List.mem_cons_of_mem _ (List.mem_cons_of_mem _ (List.mem_cons_of_mem _ (List.mem_append_right _ (List.mem_map.2 ⟨q, hq, rfl⟩))))))), (h.rw q hq).2⟩,
    h.nd, h.pos, h.le⟩
theorem Mid.kept0 (h : Mid T w p lb o cap wm rm S W R C dead) (hk : Kept [] w w') : Mid T w' p lb o cap wm rm S W R C dead := h.kept hk (by simp)
theorem Mid.lt (h : Mid T w p lb o cap wm rm S W R C dead) : ∀ g ∈ frm p lb wm rm S W, g < w.heap.size := by
  intro g hg
  unfold frm at hg
  simp only [List.mem_cons, List.mem_append, List.mem_map] at hg
  rcases hg with rfl | rfl | rfl | rfl | ⟨r, hr, rfl⟩ | ⟨q, hq, rfl⟩
  · exact h.blk.lt
  · exact h.own.lt _ (by simp)
  · exact h.mw.lt
  · exact h.mr.lt
  · exact (h.rs r hr).lt
  · exact (h.rw q hq).1.lt
theorem Mid.ld (h : Mid T w p lb o cap wm rm S W R C dead) :
    (∀ K, xR Tryd.prog (sLoad 50 (.pointer (some ⟨p, 0, none⟩))) w K ↔ K (.slice (some ⟨lb, o, none⟩) S.length cap)) ∧ (∀ K, xR Tryd.prog (sLoad 51 (.pointer (some ⟨p, 1, none⟩))) w K ↔ K (.map (some wm))) ∧
    (∀ K, xR Tryd.prog (sLoad 29 (.pointer (some ⟨p, 2, none⟩))) w K ↔ K (.map (some rm))) ∧ (∀ K, xR Tryd.prog (sLoad 4 (.pointer (some ⟨p, 3, none⟩))) w K ↔ K (.bool dead)) :=
  ⟨fun _ => ld1 ONE_50 (h.blk.cell (o := 0)), fun _ => ld1 ONE_51 (h.blk.cell (o := 1)), fun _ => ld1 ONE_29 (h.blk.cell (o := 2)), fun _ => ld1 ONE_4 (h.blk.cell (o := 3))⟩
theorem Mid.clen (h : Mid T w p lb o cap wm rm S W R C dead) : C.length = S.length := by have := h.own.1; omega
/-- The i-th sector's slice. -/
theorem Mid.elem (h : Mid T w p lb o cap wm rm S W R C dead) {i : Nat} {v : Value} (hi : C[i]? = some v) {K : Value → Prop} : (xP Tryd.prog (sIA 50 (.slice (some ⟨lb, o, none⟩) S.length cap) (.int .i64 i)) fun u => xR Tryd.prog (sLoad 36 u) w K) ↔ K v := by
  have hl := (List.getElem?_eq_some_iff.1 hi).1
  rw [h.clen] at hl
  rw [xP_IAn SL_50 SZ_36 hl, Nat.mul_one]
  have hat : At w lb o C := by
    rcases h.own.2 with ⟨he, _, _⟩ | ⟨g, oo, cp, cur, he, hF, hblk, hn, hm, hs, ht⟩
    · cases he
    · cases he
      rw [← ht]
      have := hblk.at.sub o (S.length * 1)
      rwa [Nat.zero_add] at this
  exact ld1 ONE_36 (at_cell hat hi)
theorem frm_split : (frm p lb wm rm S W).Nodup ↔ (p ≠ lb ∧ p ≠ wm ∧ p ≠ rm ∧ lb ≠ wm ∧ lb ≠ rm ∧ wm ≠ rm) ∧ (∀ b ∈ [p, lb, wm, rm], (∀ r ∈ S, r.b ≠ b) ∧ ∀ q ∈ W, q.2.b ≠ b) ∧ (S.map Rw.b).Nodup ∧ (W.map fun q => q.2.b).Nodup ∧ ∀ r ∈ S, ∀ q ∈ W, r.b ≠ q.2.b := by
  unfold frm
  simp only [List.nodup_cons, List.nodup_append, List.mem_cons, List.mem_append, List.mem_map, not_or, List.not_mem_nil, or_false, forall_eq_or_imp, forall_eq]
  constructor
  · rintro ⟨⟨a1, a2, a3, a4, a5⟩, ⟨b1, b2, b3, b4⟩, ⟨c1, c2, c3⟩, ⟨d1, d2⟩, e1, e2, e3⟩
    refine ⟨⟨a1, a2, a3, b1, b2, c1⟩, ⟨⟨fun r hr e => a4 ⟨r, hr, e⟩, fun q hq e => a5 ⟨q, hq, e⟩⟩, ⟨fun r hr e => b3 ⟨r, hr, e⟩, fun q hq e => b4 ⟨q, hq, e⟩⟩, ⟨fun r hr e => c2 ⟨r, hr, e⟩, fun q hq e => c3 ⟨q, hq, e⟩⟩, ⟨fun r hr e => d1 ⟨r, hr, e⟩, fun q hq e => d2 ⟨q, hq, e⟩⟩⟩, e1, e2, fun r hr q hq => e3 _ ⟨r, hr, rfl⟩ _ ⟨q, hq, rfl⟩⟩
  · rintro ⟨⟨a1, a2, a3, b1, b2, c1⟩, ⟨⟨a4, a5⟩, ⟨b3, b4⟩, ⟨c2, c3⟩, ⟨d1, d2⟩⟩, e1, e2, e3⟩
    refine ⟨⟨a1, a2, a3, fun ⟨r, hr, e⟩ => a4 r hr e, fun ⟨q, hq, e⟩ => a5 q hq e⟩, ⟨b1, b2, fun ⟨r, hr, e⟩ => b3 r hr e, fun ⟨q, hq, e⟩ => b4 q hq e⟩, ⟨c1, fun ⟨r, hr, e⟩ => c2 r hr e, fun ⟨q, hq, e⟩ => c3 q hq e⟩, ⟨fun ⟨r, hr, e⟩ => d1 r hr e, fun ⟨q, hq, e⟩ => d2 q hq e⟩, e1, e2, ?_⟩
    rintro _ ⟨r, hr, rfl⟩ _ ⟨q, hq, rfl⟩
    exact e3 r hr q hq
end
theorem DkI.kept {T : TypeId} {w w' : World} {p : Nat} {D : Dk} {F M : List Nat} (h : DkI T w p D F) (hk : Kept M w w') (hd : ∀ g ∈ F, g ∉ M) : DkI T w' p D F := by
  obtain ⟨lb, o, cap, wm, rm, S, W, R, h1, h2, rfl⟩ := h
  exact ⟨lb, o, cap, wm, rm, S, W, R, h1.kept hk hd, h2, rfl⟩
theorem DkI.kept0 {T : TypeId} {w w' : World} {p : Nat} {D : Dk} {F : List Nat} (h : DkI T w p D F) (hk : Kept [] w w') : DkI T w' p D F := h.kept hk (by simp)
theorem DkI.lt {T : TypeId} {w : World} {p : Nat} {D : Dk} {F : List Nat} (h : DkI T w p D F) : ∀ g ∈ F, g < w.heap.size := by
  obtain ⟨lb, o, cap, wm, rm, S, W, R, h1, h2, rfl⟩ := h
  exact h1.lt
theorem DkI.secs {T : TypeId} {w : World} {p : Nat} {D : Dk} {F : List Nat} (h : DkI T w p D F) : 0 < D.sec.length ∧ D.sec.length ≤ 128 ∧ ∀ x ∈ D.sec, x.length = 128 := by
  obtain ⟨lb, o, cap, wm, rm, S, W, R, h1, h2, rfl⟩ := h
  rw [← h2.1, List.length_map]
  refine ⟨h1.pos, h1.le, fun x hx => ?_⟩
  obtain ⟨r, hr, rfl⟩ := List.mem_map.1 hx
  exact (h1.rs r hr).len
theorem DkI.waits {T : TypeId} {w : World} {p : Nat} {D : Dk} {F : List Nat} (h : DkI T w p D F) : ∀ i x, D.wt i = some x → i < D.sec.length ∧ x.length = 128 := by
  obtain ⟨lb, o, cap, wm, rm, S, W, R, h1, h2, rfl⟩ := h
  intro i x hx
  rw [← h2.1, List.length_map]
  have := h2.2.1 i
  rw [hx] at this
  cases hm : mget W (i : Int) with
  | none => rw [hm] at this; cases this
  | some r =>
    rw [hm] at this
    simp at this
    rw [mget_pos] at hm
    cases hp : mpos W (i : Int) with
    | none => rw [hp] at hm; cases hm
    | some q =>
      obtain ⟨j, r'⟩ := q
      rw [hp] at hm
      simp at hm
      subst hm
      have hmem := List.mem_of_getElem? (mpos_get hp)
      obtain ⟨h3, h4, h5⟩ := h1.rw _ hmem
      exact ⟨by simp at h5; omega, by rw [← this]; exact h3.len⟩
end Go.Proofs.YtfjoepdmjopelaaDoor
