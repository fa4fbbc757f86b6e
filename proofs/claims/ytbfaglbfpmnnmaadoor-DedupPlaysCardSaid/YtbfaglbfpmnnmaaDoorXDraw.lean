import Derived.Test.YtbfaglbfpmnnmaaDoorXReg
namespace Go.X
set_option linter.unusedSimpArgs false
set_option linter.unusedVariables false
open Go

/-! ## A region that draws its order -/
section
variable (P : Program) (ops : Array Oper) (anc : List Nat) (n : Nat) (K : Env → World → Prop) (Q : Exit → Act → World → Prop) (ρ0 : Env)

def A (i j : Nat) : Prop := bit (anc.getD i 0) j = true
def W (t i : Nat) : Prop := ∃ o, ops[i]? = some o ∧ o.dst = some t
def Wr (S : Nat → Prop) (t : Nat) : Prop := ∃ i, S i ∧ W ops t i
def isL (listed : Array Bool) (i : Nat) : Prop := listed.getD i false = true
def valAt (ρ : Env) : Option Tmp → Value
  | none => undef
  | some t => ρ t

def Rec (ρ : Env) (i : Nat) (w : World) : Prop :=
  ∀ o, ops[i]? = some o → ∀ a : Act, a.defers = [] → a.tmps.size = n →
    (∀ t ∈ o.looksAt ops, ((∃ k, A anc i k ∧ W ops t k) → a.tmps.getD t undef = ρ t) ∧ (¬ (∃ k, A anc i k ∧ W ops t k) → a.tmps.getD t undef = ρ0 t)) →
    ∀ Kt : Act → World → Prop, Kt (a.put o.dst (valAt ρ o.dst)) w → wpOp P ops Q i Kt a w

def isEff (i : Nat) : Bool := match ops[i]? with
  | some o => (match how P (fun _ => undef) o with | .any _ => true | _ => false)
  | none => true

def edgesIn (done : List Nat) (i : Nat) : Bool := match ops[i]? with
  | some o => o.after.toList.all fun e => !Region.binds .any e || done.any fun k => Nat.beq k e.on
  | none => false

def guardBack (done : List Nat) (i : Nat) : Bool := match (ops[i]?).bind (·.guard) with
  | some (g, _) => (done.any fun k => Nat.beq k g) && ((ops[g]?).bind (·.dst)).isSome
  | none => true

/-- 'ex': what may come up besides, and is met elsewhere. -/
def planOK : List Nat → List Nat → Plan → Bool
  | done, _, .nil => Nat.beq done.length ops.size
  | done, ex, .op i p => Nat.blt i ops.size && !(done.any fun k => Nat.beq k i) && edgesIn ops done i && guardBack ops done i &&
      (bif isEff P ops i then ((List.range ops.size).all fun j => Nat.beq j i || (done.any fun k => Nat.beq k j) || (ex.any fun k => Nat.beq k j) || !edgesIn ops done j) else ex.isEmpty) && planOK (i :: done) [] p
  | done, ex, .alt i p q => Nat.blt i ops.size && !(done.any fun k => Nat.beq k i) && edgesIn ops done i && guardBack ops done i && isEff P ops i && planOK (i :: done) [] p && planOK done (i :: ex) q

/-- The ancestors that are given come of the edges. -/
def ancOK (i : Nat) : Bool := match ops[i]? with
  | some o => Nat.beq (anc.getD i 0) (o.after.toList.foldl (fun s e => bif Region.binds .any e then Nat.lor (Nat.lor s (Nat.shiftLeft 1 e.on)) (anc.getD e.on 0) else s) 0) &&
      o.after.toList.all fun e => !Region.binds .any e || Nat.blt e.on i
  | none => Nat.beq (anc.getD i 0) 0

def slotsOK : Bool := (List.range ops.size).all fun j => match ops[j]? with
  | some o => (match o.op with | .select .. => false | _ => true) && (o.looksAt ops).all fun t => (List.range ops.size).all fun i => match ops[i]? with
      | some o' => (match o'.dst with | some u => !Nat.beq t u | none => true) || Nat.beq i j || bit (anc.getD j 0) i || bit (anc.getD i 0) j
      | none => true
  | none => false

def drawOK (plan : Plan) : Bool :=
  uniqL (dsts ops) && boundL n (dsts ops) && planOK P ops [] [] plan &&
  ((List.range ops.size).all (ancOK ops anc)) && Nat.ble anc.length ops.size && slotsOK ops anc
end

theorem bit_zero (j : Nat) : bit 0 j = false := by
  simp [bit]
  rfl
theorem bit_eq_testBit (m j : Nat) : bit m j = m.testBit j := by
  unfold bit Nat.testBit
  have h : Nat.land (Nat.shiftRight m j) 1 = (m >>> j) % 2 := Nat.and_one_is_mod (m >>> j)
  rw [h, Nat.one_and_eq_mod_two]
  have := Nat.mod_two_eq_zero_or_one (m >>> j)
  rcases this with h | h <;> rw [h] <;> rfl

theorem fold_bits {anc : List Nat} (j : Nat) : ∀ (l : List Edge) (s : Nat),
    (l.foldl (fun s e => bif Region.binds .any e then Nat.lor (Nat.lor s (Nat.shiftLeft 1 e.on)) (anc.getD e.on 0) else s) s).testBit j = true →
    s.testBit j = true ∨ ∃ e ∈ l, Region.binds .any e = true ∧ (e.on = j ∨ (anc.getD e.on 0).testBit j = true) := by
  intro l
  induction l with
  | nil => intro s h; exact .inl h
  | cons e l ih =>
    intro s h
    rcases ih _ h with h | ⟨e', he', h⟩
    · dsimp only at h
      cases hb : Region.binds .any e with
      | false => rw [hb] at h; exact .inl h
      | true =>
        rw [hb, cond_true] at h
        have h' : ((s ||| (1 <<< e.on)) ||| (anc.getD e.on 0)).testBit j = true := h
        rw [Nat.testBit_or, Nat.testBit_or, Bool.or_eq_true, Bool.or_eq_true] at h'
        rcases h' with (h' | h') | h'
        · exact .inl h'
        · refine .inr ⟨e, List.mem_cons_self, hb, .inl ?_⟩
          rw [Nat.testBit_shiftLeft] at h'
          simp only [Bool.and_eq_true, decide_eq_true_eq] at h'
          obtain ⟨h1, h2⟩ := h'
          have h3 : j - e.on = 0 := by
            rcases Nat.eq_zero_or_pos (j - e.on) with h | h
            · exact h
            · have : (1 : Nat).testBit (j - e.on) = false := by
                exact Nat.testBit_lt_two_pow (Nat.one_lt_two_pow (by omega))
              rw [this] at h2; cases h2
          omega
        · exact .inr ⟨e, List.mem_cons_self, hb, .inr h'⟩
    · exact .inr ⟨e', List.mem_cons_of_mem _ he', h⟩

theorem any_beq {l : List Nat} {i : Nat} : (l.any fun k => Nat.beq k i) = true ↔ i ∈ l := by
  simp only [List.any_eq_true]
  constructor
  · rintro ⟨k, hk, h⟩; exact Nat.eq_of_beq_eq_true h ▸ hk
  · intro h; exact ⟨i, h, by simp⟩

section
variable {P : Program} {ops : Array Oper} {anc : List Nat} {n : Nat} {K : Env → World → Prop} {Q : Exit → Act → World → Prop} {ρ0 : Env}

theorem anc_step (h1 : ((List.range ops.size).all (ancOK ops anc)) = true) (h2 : Nat.ble anc.length ops.size = true) {i j : Nat} (h : A anc i j) :
    ∃ o, ops[i]? = some o ∧ ∃ e ∈ o.after.toList, Region.binds .any e = true ∧ e.on < i ∧ (e.on = j ∨ A anc e.on j) := by
  have hlt : i < ops.size := by
    rcases Nat.lt_or_ge i ops.size with hlt | hge
    · exact hlt
    · have hz : anc.getD i 0 = 0 := by
        have := Nat.le_of_ble_eq_true h2
        simp [List.getD, List.getElem?_eq_none (show anc.length ≤ i by omega)]
      unfold A at h
      rw [hz, bit_zero] at h
      cases h
  have hi := List.all_eq_true.1 h1 i (List.mem_range.2 hlt)
  have ho : ops[i]? = some ops[i] := Array.getElem?_eq_getElem hlt
  refine ⟨ops[i], ho, ?_⟩
  unfold ancOK at hi
  rw [ho] at hi
  simp only [Bool.and_eq_true] at hi
  obtain ⟨hi1, hi2⟩ := hi
  unfold A at h
  rw [bit_eq_testBit, Nat.eq_of_beq_eq_true hi1] at h
  rcases fold_bits j _ _ h with h | ⟨e, he, hb, hj⟩
  · simp at h
  · have hlt' := List.all_eq_true.1 hi2 e he
    rw [hb] at hlt'
    refine ⟨e, he, hb, by simpa [Nat.blt_eq] using hlt', hj.imp id (fun h => ?_)⟩
    unfold A
    rw [bit_eq_testBit]; exact h

/-- Whatever is closed under the edges is closed under the ancestors. -/
theorem closed_of_edges (h1 : ((List.range ops.size).all (ancOK ops anc)) = true) (h2 : Nat.ble anc.length ops.size = true) {S : Nat → Prop}
    (hS : ∀ i o, S i → ops[i]? = some o → ∀ e ∈ o.after.toList, Region.binds .any e = true → S e.on) : ∀ (m i : Nat), i < m → S i → ∀ j, A anc i j → S j := by
  intro m
  induction m with
  | zero => intro i hi; omega
  | succ m ih =>
    intro i hi hs j hj
    obtain ⟨o, ho, e, he, hb, hlt, h⟩ := anc_step h1 h2 hj
    have hon := hS i o hs ho e he hb
    rcases h with rfl | h
    · exact hon
    · exact ih e.on (by omega) hon j h

/-- Where the walk stands: 'done' has been met in thought, 'listed' has been carried out. -/
structure Inv (P : Program) (ops : Array Oper) (anc : List Nat) (n : Nat) (K : Env → World → Prop) (Q : Exit → Act → World → Prop) (ρ0 : Env)
    (listed : Array Bool) (done : List Nat) (rest : Plan) (ex : List Nat) (pend : List Pend) (kn : List (Nat × Option Bool)) (ρ : Env) (a : Act) (w : World) : Prop where
  size : listed.size = ops.size
  df : a.defers = []
  sz : a.tmps.size = n
  acts : ∀ t, (Wr ops (isL listed) t → a.tmps.getD t undef = ρ t) ∧ (¬ Wr ops (isL listed) t → a.tmps.getD t undef = ρ0 t)
  rho : ∀ t, ¬ Wr ops (· ∈ done) t → ρ t = ρ0 t
  sub : ∀ i, isL listed i → i ∈ done
  closed : ∀ i, isL listed i → ∀ j, A anc i j → isL listed j
  dclosed : ∀ i, i ∈ done → ∀ j, A anc i j → j ∈ done
  recs : ∀ i, i ∈ done → ¬ isL listed i → Rec P ops anc n Q ρ0 ρ i w ∧
    ((∀ w', Rec P ops anc n Q ρ0 ρ i w') ∨ ∃ p ∈ pend, p.i = i ∧ ∀ w', p.s.run P w' = .ok (.value p.v) w' → Rec P ops anc n Q ρ0 ρ i w')
  knok : KnOK ops done kn ρ
  plan : planOK P ops done ex rest = true
  nd : done.Nodup
  lt : ∀ i ∈ done, i < ops.size
  vc : regVC P ops true anc K rest pend kn ρ w

structure Checks (ops : Array Oper) (anc : List Nat) (n : Nat) : Prop where
  hu : uniqL (dsts ops) = true
  hb : boundL n (dsts ops) = true
  h1 : ((List.range ops.size).all (ancOK ops anc)) = true
  h2 : Nat.ble anc.length ops.size = true
  h3 : slotsOK ops anc = true

theorem slots_spec (h : slotsOK ops anc = true) {j i : Nat} {o o' : Oper} {t : Nat} (hj : ops[j]? = some o) (hi : ops[i]? = some o') (ht : t ∈ o.looksAt ops) (hd : o'.dst = some t) :
    i = j ∨ A anc j i ∨ A anc i j := by
  have hjl : j < ops.size := (Array.getElem?_eq_some_iff.1 hj).1
  have hil : i < ops.size := (Array.getElem?_eq_some_iff.1 hi).1
  have := List.all_eq_true.1 h j (List.mem_range.2 hjl)
  rw [hj] at this
  simp only [Bool.and_eq_true] at this
  have := List.all_eq_true.1 this.2 t ht
  have := List.all_eq_true.1 this i (List.mem_range.2 hil)
  rw [hi] at this
  simp only [hd] at this
  simp only [Nat.beq_refl, Bool.not_true, Bool.false_or, Bool.or_eq_true] at this
  rcases this with (h | h) | h
  · exact .inl (Nat.eq_of_beq_eq_true h)
  · exact .inr (.inl h)
  · exact .inr (.inr h)

theorem slots_nosel (h : slotsOK ops anc = true) {j : Nat} {o : Oper} (hj : ops[j]? = some o) : ∀ cs b, o.op ≠ .select cs b := by
  intro cs b hs
  have hjl : j < ops.size := (Array.getElem?_eq_some_iff.1 hj).1
  have := List.all_eq_true.1 h j (List.mem_range.2 hjl)
  rw [hj] at this
  simp [hs] at this

theorem W.uniq (hu : uniqL (dsts ops) = true) {t i j : Nat} (h : W ops t i) (h' : W ops t j) : i = j := by
  obtain ⟨o, ho, hd⟩ := h
  obtain ⟨o', ho', hd'⟩ := h'
  exact uniqL_spec hu i j t (by rw [dsts_get ho, hd]) (by rw [dsts_get ho', hd'])

theorem isL_set {listed : Array Bool} {i k : Nat} (hi : i < listed.size) : isL (listed.setIfInBounds i true) k ↔ k = i ∨ isL listed k := by
  unfold isL
  by_cases h : k = i
  · subst h; simp [Array.getD, hi]
  · simp only [Array.getD_eq_getD_getElem?]
    rw [Array.getElem?_setIfInBounds_ne (Ne.symm h)]
    simp [h]

/-- The environment may turn at a slot that nobody of the ones in question writes. -/
theorem Rec.congr {ρ ρ' : Env} {i : Nat} {w : World} (h : Rec P ops anc n Q ρ0 ρ i w) (hd : ∀ o t, ops[i]? = some o → o.dst = some t → ρ' t = ρ t) (ha : ∀ k t, A anc i k → W ops t k → ρ' t = ρ t) :
    Rec P ops anc n Q ρ0 ρ' i w := by
  intro o ho a hdf hsz hag Kt hK
  refine h o ho a hdf hsz (fun t ht => ⟨fun ⟨k, hk, hw⟩ => ((hag t ht).1 ⟨k, hk, hw⟩).trans (ha k t hk hw), (hag t ht).2⟩) Kt ?_
  have : valAt ρ o.dst = valAt ρ' o.dst := by
    cases hdst : o.dst with
    | none => rfl
    | some t => exact (hd o t ho hdst).symm
  rw [this]; exact hK

theorem mem_looks_operand {o : Oper} {t : Nat} (h : Operand.tmp t ∈ o.op.operands) : t ∈ o.looksAt ops := by
  unfold Oper.looksAt
  refine List.mem_append.2 (.inl (List.mem_filterMap.2 ⟨.tmp t, by simpa using h, rfl⟩))

theorem mem_looks_guard {o o' : Oper} {t g : Nat} {b : Bool} (h : o.guard = some (g, b)) (hg : ops[g]? = some o') (hd : o'.dst = some t) : t ∈ o.looksAt ops := by
  unfold Oper.looksAt
  refine List.mem_append.2 (.inr ?_)
  rw [h]
  simp [hg, hd]

/-- The values that an operation looks at are those of the environment in which it was met. -/
theorem exec_eq {o : Oper} (hns : ∀ cs b, o.op ≠ .select cs b) {a : Act} {ρ : Env} (h : ∀ t ∈ o.looksAt ops, a.tmps.getD t undef = ρ t) : execOp a.eval o = execOp (ev ρ) o := by
  refine execOp_congr o hns (fun x hx => ?_)
  cases x with
  | tmp t => exact h t (mem_looks_operand hx)
  | _ => rfl

/-- What is known of 'i' as it is met, and of whatever act bears the values that it looks at. -/
theorem looks_meet (C : Checks ops anc n) {done : List Nat} {ρ : Env} (hrho : ∀ t, ¬ Wr ops (· ∈ done) t → ρ t = ρ0 t) (hdc : ∀ i, i ∈ done → ∀ j, A anc i j → j ∈ done)
    {i : Nat} {o : Oper} (ho : ops[i]? = some o) (hi : i ∉ done) (hanc : ∀ j, A anc i j → j ∈ done) {ρ' : Env} (hρ' : ∀ t, o.dst ≠ some t → ρ' t = ρ t) {a : Act}
    (hag : ∀ t ∈ o.looksAt ops, ((∃ k, A anc i k ∧ W ops t k) → a.tmps.getD t undef = ρ' t) ∧ (¬ (∃ k, A anc i k ∧ W ops t k) → a.tmps.getD t undef = ρ0 t)) :
    ∀ t ∈ o.looksAt ops, a.tmps.getD t undef = ρ t := by
  intro t ht
  by_cases hk : ∃ k, A anc i k ∧ W ops t k
  · rw [(hag t ht).1 hk]
    obtain ⟨k, hk, hw⟩ := hk
    refine hρ' t (fun hd => ?_)
    have := W.uniq C.hu hw ⟨o, ho, hd⟩
    subst this
    exact hi (hanc _ hk)
  · rw [(hag t ht).2 hk]
    refine (hrho t (fun ⟨k, hkd, hw⟩ => ?_)).symm
    obtain ⟨o', ho', hd'⟩ := hw
    rcases slots_spec C.h3 ho ho' ht hd' with rfl | h | h
    · exact hi hkd
    · exact hk ⟨k, h, o', ho', hd'⟩
    · exact hi (hdc k hkd i h)

/-- An operation that is met and leaves the world alone is recorded. -/
theorem rec_of_value (C : Checks ops anc n) {done : List Nat} {ρ : Env} (hrho : ∀ t, ¬ Wr ops (· ∈ done) t → ρ t = ρ0 t) (hdc : ∀ i, i ∈ done → ∀ j, A anc i j → j ∈ done)
    {i : Nat} {o : Oper} (ho : ops[i]? = some o) (hi : i ∉ done) (hanc : ∀ j, A anc i j → j ∈ done) {doIt : Bool} {kn' : List (Nat × Option Bool)} {kn : List (Nat × Option Bool)}
    (hgw : ∀ n a ρ', Rep n a ρ' → boundL n (dsts ops) = true → (∀ g want o' t, o.guard = some (g, want) → ops[g]? = some o' → o'.dst = some t → ρ' t = ρ t) → Region.wanted o (yielded ops a.tmps) = doIt)
    (_hg : GuardSays ops o kn ρ doIt kn') {v : Value} {w : World}
    (hv : (doIt = true ∧ (execOp (ev ρ) o).run P w = .ok (.value v) w) ∨ (doIt = false ∧ v = undef)) : Rec P ops anc n Q ρ0 (ρ.put o.dst v) i w := by
  intro o1 ho1 a hdf hsz hag Kt hK
  rw [ho] at ho1; cases ho1
  have hl := looks_meet C hrho hdc ho hi hanc (ρ' := ρ.put o.dst v) (fun t ht => Env.put_ne ht) hag
  have hrep : Rep n a (fun t => a.tmps.getD t undef) := ⟨hdf, hsz, fun _ => rfl⟩
  have hwd := hgw n a _ hrep C.hb (fun g want o' t hgd ho' hd' => hl t (mem_looks_guard hgd ho' hd'))
  have hval : a.put o.dst (valAt (ρ.put o.dst v) o.dst) = a.put o.dst v := by
    cases hd : o.dst with
    | none => rfl
    | some t => simp only [valAt, Env.put_eq]
  rw [hval] at hK
  unfold wpOp
  rw [ho]
  simp only [hwd]
  rcases hv with ⟨rfl, hrun⟩ | ⟨rfl, rfl⟩
  · refine .inl ?_
    unfold Oper.wp
    rw [exec_eq (slots_nosel C.h3 ho) hl, hrun]
    exact hK
  · exact hK

theorem edgesIn_spec {done : List Nat} {i : Nat} (h : edgesIn ops done i = true) : ∃ o, ops[i]? = some o ∧ ∀ e ∈ o.after.toList, Region.binds .any e = true → e.on ∈ done := by
  unfold edgesIn at h
  cases ho : ops[i]? with
  | none => rw [ho] at h; cases h
  | some o =>
    rw [ho] at h
    refine ⟨o, rfl, fun e he hb => ?_⟩
    have := List.all_eq_true.1 h e he
    rw [hb] at this
    exact any_beq.1 (by simpa using this)

theorem edges_anc (C : Checks ops anc n) {done : List Nat} (hdc : ∀ i, i ∈ done → ∀ j, A anc i j → j ∈ done) {i : Nat} (h : edgesIn ops done i = true) : ∀ j, A anc i j → j ∈ done := by
  intro j hj
  obtain ⟨o, ho, he⟩ := edgesIn_spec h
  obtain ⟨o', ho', e, hee, hb, _, hjj⟩ := anc_step C.h1 C.h2 hj
  rw [ho] at ho'; cases ho'
  have hon := he e hee hb
  rcases hjj with rfl | hjj
  · exact hon
  · exact hdc _ hon j hjj

/-- The head is met, and left for later: nothing is carried out. -/
theorem Inv.meet (C : Checks ops anc n) {listed : Array Bool} {done : List Nat} {rest : Plan} {ex : List Nat} {pend : List Pend} {kn : List (Nat × Option Bool)} {ρ : Env} {a : Act} {w : World} {i : Nat}
    (I : Inv P ops anc n K Q ρ0 listed done (.op i rest) ex pend kn ρ a w) :
    (∃ pend' kn' ρ', Inv P ops anc n K Q ρ0 listed (i :: done) rest [] pend' kn' ρ' a w) ∨
    (∃ o s kn', ops[i]? = some o ∧ isEff P ops i = true ∧ how P ρ o = .any s ∧ KnOK ops done kn' ρ ∧
      (∀ n a ρ', Rep n a ρ' → boundL n (dsts ops) = true → (∀ g want o' t, o.guard = some (g, want) → ops[g]? = some o' → o'.dst = some t → ρ' t = ρ t) → Region.wanted o (yielded ops a.tmps) = true) ∧
      xE P s w fun v w' => still P w' (beside (anc.getD i 0) pend) (regVC P ops true anc K rest (beside (anc.getD i 0) pend) kn' (ρ.put o.dst v) w')) := by
  obtain ⟨o, ho, doIt, kn', hg, hcase⟩ := step_cases I.vc
  have hpl := I.plan
  simp only [planOK, Bool.and_eq_true, Bool.not_eq_true'] at hpl
  obtain ⟨⟨⟨⟨⟨hlt, hnot⟩, hedge⟩, hgs⟩, heff⟩, hplan⟩ := hpl
  obtain ⟨hk', hgw⟩ := guard_wanted ho I.knok hg hgs
  have hi : i ∉ done := fun h => by rw [any_beq.2 h] at hnot; cases hnot
  have hanc := edges_anc C I.dclosed hedge
  have hlt' : i < ops.size := by simpa [Nat.blt_eq] using hlt
  -- the common part
  have mk : ∀ (v : Value) (pend' : List Pend) (kn'' : List (Nat × Option Bool)),
      (∀ p ∈ pend, p ∈ pend') →
      Rec P ops anc n Q ρ0 (ρ.put o.dst v) i w →
      ((∀ w', Rec P ops anc n Q ρ0 (ρ.put o.dst v) i w') ∨ ∃ p ∈ pend', p.i = i ∧ ∀ w', p.s.run P w' = .ok (.value p.v) w' → Rec P ops anc n Q ρ0 (ρ.put o.dst v) i w') →
      KnOK ops (i :: done) kn'' (ρ.put o.dst v) →
      regVC P ops true anc K rest pend' kn'' (ρ.put o.dst v) w →
      Inv P ops anc n K Q ρ0 listed (i :: done) rest [] pend' kn'' (ρ.put o.dst v) a w := by
    intro v pend' kn'' hpp hrec hrec' hkn hvc
    have hρt : ∀ k t, k ∈ done → W ops t k → (ρ.put o.dst v) t = ρ t := by
      intro k t hkd hw
      refine Env.put_ne (fun hd => ?_)
      have := W.uniq C.hu hw ⟨o, ho, hd⟩
      exact hi (this ▸ hkd)
    have keep : ∀ k ∈ done, ∀ w', Rec P ops anc n Q ρ0 ρ k w' → Rec P ops anc n Q ρ0 (ρ.put o.dst v) k w' := by
      intro k hkd w' h
      exact h.congr (fun o' t ho' hd' => hρt k t hkd ⟨o', ho', hd'⟩) (fun k' t hk' hw' => hρt k' t (I.dclosed k hkd k' hk') hw')
    exact {
      size := I.size, df := I.df, sz := I.sz
      acts := fun t => ⟨fun hw => by
          obtain ⟨k, hk, hw'⟩ := hw
          rw [(I.acts t).1 ⟨k, hk, hw'⟩]
          exact (hρt k t (I.sub k hk) hw').symm, (I.acts t).2⟩
      rho := fun t hn => by
        rw [Env.put_ne (fun hd => hn ⟨i, List.mem_cons_self, o, ho, hd⟩)]
        exact I.rho t (fun ⟨k, hk, hw⟩ => hn ⟨k, List.mem_cons_of_mem _ hk, hw⟩)
      sub := fun k hk => List.mem_cons_of_mem _ (I.sub k hk)
      closed := I.closed
      dclosed := fun k hk j hj => by
        rcases List.mem_cons.1 hk with rfl | hk
        · exact List.mem_cons_of_mem _ (hanc j hj)
        · exact List.mem_cons_of_mem _ (I.dclosed k hk j hj)
      recs := fun k hk hnl => by
        rcases List.mem_cons.1 hk with rfl | hk
        · exact ⟨hrec, hrec'⟩
        · obtain ⟨r1, r2⟩ := I.recs k hk hnl
          refine ⟨keep k hk w r1, r2.imp (fun h w' => keep k hk w' (h w')) (fun ⟨p, hp, hpi, h⟩ => ⟨p, hpp p hp, hpi, fun w' hr => keep k hk w' (h w' hr)⟩)⟩
      knok := hkn
      plan := hplan
      nd := List.nodup_cons.2 ⟨hi, I.nd⟩
      lt := fun k hk => by
        rcases List.mem_cons.1 hk with rfl | hk
        · exact hlt'
        · exact I.lt k hk
      vc := hvc }
  have recv : ∀ (v : Value) (w' : World), ((doIt = true ∧ (execOp (ev ρ) o).run P w' = .ok (.value v) w') ∨ (doIt = false ∧ v = undef)) → Rec P ops anc n Q ρ0 (ρ.put o.dst v) i w' :=
    fun v w' hv => rec_of_value C I.rho I.dclosed ho hi hanc hgw hg hv
  rcases hcase with ⟨rfl, hgo⟩ | ⟨rfl, hskip⟩
  · unfold goPart at hgo
    cases hpk : pickKn kn' o with
    | some x =>
      rw [hpk] at hgo
      have r : ∀ w', Rec P ops anc n Q ρ0 (ρ.put o.dst (ev ρ x)) i w' := fun w' => recv _ w' (.inl ⟨rfl, by rw [pickKn_spec hk' hpk]; rfl⟩)
      exact .inl ⟨_, _, _, mk (ev ρ x) pend (addKn o.dst x kn') (fun _ h => h) (r w) (.inl r) (hk'.add C.hu ho hi x) hgo⟩
    | none =>
    rw [hpk] at hgo
    simp only at hgo
    have hs := how_spec P ρ o
    cases hh : how P ρ o with
    | mv v =>
      rw [hh] at hgo hs
      simp only [How.is] at hs
      have r : ∀ w', Rec P ops anc n Q ρ0 (ρ.put o.dst v) i w' := fun w' => recv v w' (.inl ⟨rfl, by rw [hs]; rfl⟩)
      exact .inl ⟨_, _, _, mk v pend kn' (fun _ h => h) (r w) (.inl r) (hk'.put C.hu ho hi v) hgo⟩
    | pure s =>
      rw [hh] at hgo hs
      simp only [How.is] at hs
      obtain ⟨v, h1, h2⟩ := hgo
      have r : ∀ w', Rec P ops anc n Q ρ0 (ρ.put o.dst v) i w' := fun w' => recv v w' (.inl ⟨rfl, by rw [hs]; exact h1 w'⟩)
      exact .inl ⟨_, _, _, mk v pend kn' (fun _ h => h) (r w) (.inl r) (hk'.put C.hu ho hi v) h2⟩
    | read s =>
      rw [hh] at hgo hs
      simp only [How.is] at hs
      obtain ⟨v, h1, h2⟩ := hgo
      have r : ∀ w', s.run P w' = .ok (.value v) w' → Rec P ops anc n Q ρ0 (ρ.put o.dst v) i w' := fun w' h => recv v w' (.inl ⟨rfl, by rw [hs]; exact h⟩)
      exact .inl ⟨_, _, _, mk v (⟨i, s, v⟩ :: pend) kn' (fun _ h => List.mem_cons_of_mem _ h) (r w h1) (.inr ⟨⟨i, s, v⟩, List.mem_cons_self, rfl, r⟩) (hk'.put C.hu ho hi v) h2⟩
    | any s =>
      rw [hh] at hgo
      have he : isEff P ops i = true := by
        unfold isEff
        rw [ho]
        have : ∀ ρ', (match how P ρ' o with | .any _ => true | _ => false) = (match how P ρ o with | .any _ => true | _ => false) := by
          intro ρ'
          obtain ⟨dst, op, type, pos, after, guard⟩ := o
          cases op <;> try rfl
          case binOp b t x y yt => cases b <;> rfl
          case convert s d x => simp only [how]; cases isInt P s && isInt P d <;> rfl
          case call c =>
            obtain ⟨callee, args, ats⟩ := c
            cases callee with
            | value f => cases f <;> rfl
            | invoke r m => rfl
            | builtin b => cases b <;> first | rfl | (simp only [how]; cases isMap P (ats.getD 0 0) <;> rfl)
        simp only [this, hh]
      exact .inr ⟨o, s, kn', ho, he, hh, hk', hgw, hgo⟩
  · have r : ∀ w', Rec P ops anc n Q ρ0 (ρ.put o.dst undef) i w' := fun w' => recv undef w' (.inr ⟨rfl, rfl⟩)
    exact .inl ⟨_, _, _, mk undef pend (skipKn o.dst kn') (fun _ h => h) (r w) (.inl r) ((hk'.put C.hu ho hi undef).skip ho (fun t ht => by rw [ht]; exact Env.put_eq)) hskip⟩

theorem isL_mono {listed : Array Bool} {i k : Nat} (hk : isL listed k) : isL (listed.setIfInBounds i true) k := by
  unfold isL at *
  by_cases h : k = i
  · subst h
    have : k < listed.size := by
      rcases Nat.lt_or_ge k listed.size with h | h
      · exact h
      · simp [Array.getD, Nat.not_lt.2 h] at hk
    simp [Array.getD, this]
  · simp only [Array.getD_eq_getD_getElem?]
    rw [Array.getElem?_setIfInBounds_ne (Ne.symm h)]
    simpa using hk

theorem nodup_full {l : List Nat} {m : Nat} (hn : l.Nodup) (hb : ∀ k ∈ l, k < m) (hl : l.length = m) : ∀ k, k < m → k ∈ l := by
  intro k hk
  refine Classical.byContradiction (fun hc => ?_)
  have h1 : (k :: l).Nodup := List.nodup_cons.2 ⟨hc, hn⟩
  have h2 : (k :: l).length ≤ (List.range m).length := List.Nodup.length_le_of_subset h1 (fun x hx => by
    rcases List.mem_cons.1 hx with rfl | hx
    · exact List.mem_range.2 hk
    · exact List.mem_range.2 (hb x hx))
  simp at h2
  omega

theorem count_lt {listed : Array Bool} {i m : Nat} (hi : i < m) (hs : i < listed.size) (hl : listed.getD i false = false) :
    ((List.range m).filter fun k => !(listed.setIfInBounds i true).getD k false).length < ((List.range m).filter fun k => !listed.getD k false).length := by
  have e : ((List.range m).filter fun k => !(listed.setIfInBounds i true).getD k false) = (((List.range m).filter fun k => !listed.getD k false).filter fun k => !(listed.setIfInBounds i true).getD k false) := by
    rw [List.filter_filter]
    refine List.filter_congr (fun k _ => ?_)
    cases hb : listed.getD k false with
    | false => simp
    | true =>
      have : isL (listed.setIfInBounds i true) k := isL_mono hb
      unfold isL at this
      simp [this]
  rw [e]
  refine List.length_filter_lt_length_iff_exists.2 ⟨i, List.mem_filter.2 ⟨List.mem_range.2 hi, by simp only [hl, Bool.not_false]⟩, ?_⟩
  have : isL (listed.setIfInBounds i true) i := (isL_set hs).2 (.inl rfl)
  unfold isL at this
  simp [this]

/-- The values in the slots, behind one more operation. -/
theorem acts_step (C : Checks ops anc n) {listed : Array Bool} {i : Nat} {o : Oper} (ho : ops[i]? = some o) (hil : i < listed.size) (hnl : ¬ isL listed i) {ρ : Env} {a : Act} (hsz : a.tmps.size = n)
    (h : ∀ t, (Wr ops (isL listed) t → a.tmps.getD t undef = ρ t) ∧ (¬ Wr ops (isL listed) t → a.tmps.getD t undef = ρ0 t)) :
    ∀ t, (Wr ops (isL (listed.setIfInBounds i true)) t → (a.put o.dst (valAt ρ o.dst)).tmps.getD t undef = ρ t) ∧
      (¬ Wr ops (isL (listed.setIfInBounds i true)) t → (a.put o.dst (valAt ρ o.dst)).tmps.getD t undef = ρ0 t) := by
  intro t
  by_cases hd : o.dst = some t
  · have htn : t < n := boundL_spec C.hb i t (by rw [dsts_get ho, hd])
    have : (a.put o.dst (valAt ρ o.dst)).tmps.getD t undef = ρ t := by
      rw [hd]
      simp [Act.put, valAt, Array.getD, hsz, htn]
    exact ⟨fun _ => this, fun hn => absurd ⟨i, (isL_set hil).2 (.inl rfl), o, ho, hd⟩ hn⟩
  · have hput : (a.put o.dst (valAt ρ o.dst)).tmps.getD t undef = a.tmps.getD t undef := by
      cases hdo : o.dst with
      | none => rfl
      | some d =>
        have : d ≠ t := fun e => hd (by rw [hdo, e])
        simp only [Act.put, Array.getD_eq_getD_getElem?]
        rw [Array.getElem?_setIfInBounds_ne this]
    rw [hput]
    refine ⟨fun ⟨k, hk, hw⟩ => (h t).1 ⟨k, ?_, hw⟩, fun hn => (h t).2 (fun ⟨k, hk, hw⟩ => hn ⟨k, isL_mono hk, hw⟩)⟩
    rcases (isL_set hil).1 hk with rfl | hk
    · obtain ⟨o', ho', hd'⟩ := hw
      rw [ho] at ho'; cases ho'
      exact absurd hd' hd
    · exact hk

/-- What was met earlier is carried out now. -/
theorem Inv.carry (C : Checks ops anc n) {listed : Array Bool} {done : List Nat} {rest : Plan} {pend : List Pend} {kn : List (Nat × Option Bool)} {ρ : Env} {a : Act} {w : World} {i : Nat}
    (I : Inv P ops anc n K Q ρ0 listed done rest [] pend kn ρ a w) (hid : i ∈ done) (hnl : ¬ isL listed i) (hanc : ∀ j, A anc i j → isL listed j)
    {Kt : Act → World → Prop} (hK : ∀ a', (∃ done rest pend kn ρ, Inv P ops anc n K Q ρ0 (listed.setIfInBounds i true) done rest [] pend kn ρ a' w) → Kt a' w) : wpOp P ops Q i Kt a w := by
  have hlt := I.lt i hid
  have ho : ops[i]? = some ops[i] := Array.getElem?_eq_getElem hlt
  have hil : i < listed.size := I.size ▸ hlt
  refine (I.recs i hid hnl).1 _ ho a I.df I.sz (fun t ht => ⟨fun ⟨k, hk, hw⟩ => (I.acts t).1 ⟨k, hanc k hk, hw⟩, fun hn => (I.acts t).2 (fun ⟨k, hk, hw⟩ => ?_)⟩) Kt (hK _ ⟨done, rest, pend, kn, ρ, ?_⟩)
  · obtain ⟨o', ho', hd'⟩ := hw
    rcases slots_spec C.h3 ho ho' ht hd' with rfl | h | h
    · exact hnl hk
    · exact hn ⟨k, h, o', ho', hd'⟩
    · exact hnl (I.closed k hk i h)
  · exact {
      size := by simp [I.size], df := by cases ops[i].dst <;> exact I.df, sz := by cases h : ops[i].dst <;> simp [Act.put, I.sz]
      acts := acts_step C ho hil hnl I.sz I.acts
      rho := I.rho
      sub := fun k hk => by
        rcases (isL_set hil).1 hk with rfl | hk
        · exact hid
        · exact I.sub k hk
      closed := fun k hk j hj => by
        rcases (isL_set hil).1 hk with rfl | hk
        · exact isL_mono (hanc j hj)
        · exact isL_mono (I.closed k hk j hj)
      dclosed := I.dclosed
      recs := fun k hk hn => I.recs k hk (fun h => hn (isL_mono h))
      knok := I.knok, plan := I.plan, nd := I.nd, lt := I.lt, vc := I.vc }

theorem still_spec {w : World} : ∀ {l : List Pend} {B : Prop}, still P w l B → (∀ p ∈ l, p.s.run P w = .ok (.value p.v) w) ∧ B
  | [], _, h => ⟨fun _ hp => (by cases hp), h⟩
  | p :: l, B, h => by
    obtain ⟨h1, h2⟩ := still_spec (l := l) h.2
    exact ⟨fun q hq => by
      rcases List.mem_cons.1 hq with rfl | hq
      · exact h.1
      · exact h1 q hq, h2⟩

theorem mem_beside {m : Nat} {p : Pend} : ∀ {l : List Pend}, p ∈ l → bit m p.i = false → p ∈ beside m l
  | q :: l, h, hb => by
    simp only [beside]
    rcases List.mem_cons.1 h with rfl | h
    · rw [hb]; exact List.mem_cons_self
    · cases bit m q.i
      · exact List.mem_cons_of_mem _ (mem_beside h hb)
      · exact mem_beside h hb

/-- The head is met and carried out at once. -/
theorem Inv.effect (C : Checks ops anc n) {listed : Array Bool} {done : List Nat} {rest whole : Plan} {ex : List Nat} {pend : List Pend} {kn kn' : List (Nat × Option Bool)} {ρ : Env} {a : Act} {w : World} {i : Nat}
    (I : Inv P ops anc n K Q ρ0 listed done whole ex pend kn ρ a w) (hlt' : i < ops.size) (hi : i ∉ done) (hedge : edgesIn ops done i = true) (hplan : planOK P ops (i :: done) [] rest = true)
    (hanc : ∀ j, A anc i j → isL listed j) {o : Oper} {s : Sem Next} (ho : ops[i]? = some o) (hh : how P ρ o = .any s)
    (hk' : KnOK ops done kn' ρ)
    (hgw : ∀ n a ρ', Rep n a ρ' → boundL n (dsts ops) = true → (∀ g want o' t, o.guard = some (g, want) → ops[g]? = some o' → o'.dst = some t → ρ' t = ρ t) → Region.wanted o (yielded ops a.tmps) = true)
    (hE : xE P s w fun v w' => still P w' (beside (anc.getD i 0) pend) (regVC P ops true anc K rest (beside (anc.getD i 0) pend) kn' (ρ.put o.dst v) w')) :
    wpOp P ops Q i (fun a' w' => ∃ done rest pend kn ρ, Inv P ops anc n K Q ρ0 (listed.setIfInBounds i true) done rest [] pend kn ρ a' w') a w := by
  have hnl : ¬ isL listed i := fun h => hi (I.sub i h)
  have hancd := edges_anc C I.dclosed hedge
  have hil : i < listed.size := I.size ▸ hlt'
  have hl : ∀ t ∈ o.looksAt ops, a.tmps.getD t undef = ρ t := by
    refine looks_meet C I.rho I.dclosed ho hi hancd (ρ' := ρ) (fun _ _ => rfl) (fun t ht => ⟨fun ⟨k, hk, hw⟩ => (I.acts t).1 ⟨k, hanc k hk, hw⟩, fun hn => (I.acts t).2 (fun ⟨k, hk, hw⟩ => ?_)⟩)
    obtain ⟨o', ho', hd'⟩ := hw
    rcases slots_spec C.h3 ho ho' ht hd' with rfl | h | h
    · exact hnl hk
    · exact hn ⟨k, h, o', ho', hd'⟩
    · exact hnl (I.closed k hk i h)
  have hrep : Rep n a (fun t => a.tmps.getD t undef) := ⟨I.df, I.sz, fun _ => rfl⟩
  have hwd := hgw n a _ hrep C.hb (fun g want o' t hgd ho' hd' => hl t (mem_looks_guard hgd ho' hd'))
  have hs := how_spec P ρ o
  rw [hh] at hs
  simp only [How.is] at hs
  have fin : ∀ v w', (still P w' (beside (anc.getD i 0) pend) (regVC P ops true anc K rest (beside (anc.getD i 0) pend) kn' (ρ.put o.dst v) w')) →
      ∃ done rest pend kn ρ, Inv P ops anc n K Q ρ0 (listed.setIfInBounds i true) done rest [] pend kn ρ (a.put o.dst v) w' := by
    intro v w' hst
    obtain ⟨hall, hvc⟩ := still_spec hst
    have hρt : ∀ k t, k ∈ done → W ops t k → (ρ.put o.dst v) t = ρ t := by
      intro k t hkd hw
      refine Env.put_ne (fun hd => ?_)
      have := W.uniq C.hu hw ⟨o, ho, hd⟩
      exact hi (this ▸ hkd)
    have keep : ∀ k ∈ done, ∀ w', Rec P ops anc n Q ρ0 ρ k w' → Rec P ops anc n Q ρ0 (ρ.put o.dst v) k w' := by
      intro k hkd w' h
      exact h.congr (fun o' t ho' hd' => hρt k t hkd ⟨o', ho', hd'⟩) (fun k' t hk' hw' => hρt k' t (I.dclosed k hkd k' hk') hw')
    have hval : a.put o.dst v = a.put o.dst (valAt (ρ.put o.dst v) o.dst) := by
      cases hd : o.dst with
      | none => rfl
      | some t => simp only [valAt, Env.put_eq]
    refine ⟨i :: done, rest, beside (anc.getD i 0) pend, kn', ρ.put o.dst v, ?_⟩
    rw [hval]
    exact {
      size := by simp [I.size], df := by cases o.dst <;> exact I.df, sz := by cases h : o.dst <;> simp [Act.put, I.sz]
      acts := acts_step C ho hil hnl I.sz (fun t => ⟨fun ⟨k, hk, hw⟩ => ((I.acts t).1 ⟨k, hk, hw⟩).trans (hρt k t (I.sub k hk) hw).symm, (I.acts t).2⟩)
      rho := fun t hn => by
        rw [Env.put_ne (fun hd => hn ⟨i, List.mem_cons_self, o, ho, hd⟩)]
        exact I.rho t (fun ⟨k, hk, hw⟩ => hn ⟨k, List.mem_cons_of_mem _ hk, hw⟩)
      sub := fun k hk => by
        rcases (isL_set hil).1 hk with rfl | hk
        · exact List.mem_cons_self
        · exact List.mem_cons_of_mem _ (I.sub k hk)
      closed := fun k hk j hj => by
        rcases (isL_set hil).1 hk with rfl | hk
        · exact isL_mono (hanc j hj)
        · exact isL_mono (I.closed k hk j hj)
      dclosed := fun k hk j hj => by
        rcases List.mem_cons.1 hk with rfl | hk
        · exact List.mem_cons_of_mem _ (hancd j hj)
        · exact List.mem_cons_of_mem _ (I.dclosed k hk j hj)
      recs := fun k hk hnl' => by
        rcases List.mem_cons.1 hk with rfl | hk
        · exact absurd ((isL_set hil).2 (.inl rfl)) hnl'
        · have hnk : ¬ isL listed k := fun h => hnl' (isL_mono h)
          obtain ⟨_, r2⟩ := I.recs k hk hnk
          rcases r2 with h | ⟨p, hp, hpi, h⟩
          · exact ⟨keep k hk w' (h w'), .inl (fun w'' => keep k hk w'' (h w''))⟩
          · have hb : bit (anc.getD i 0) p.i = false := by
              cases hbb : bit (anc.getD i 0) p.i with
              | false => rfl
              | true => exact absurd (hanc k (by unfold A; rw [← hpi]; exact hbb)) hnk
            have hp' := mem_beside hp hb
            exact ⟨keep k hk w' (h w' (hall p hp')), .inr ⟨p, hp', hpi, fun w'' hr => keep k hk w'' (h w'' hr)⟩⟩
      knok := hk'.put C.hu ho hi v
      plan := hplan
      nd := List.nodup_cons.2 ⟨hi, I.nd⟩
      lt := fun k hk => by
        rcases List.mem_cons.1 hk with rfl | hk
        · exact hlt'
        · exact I.lt k hk
      vc := hvc }
  unfold wpOp
  rw [ho]
  simp only [hwd, if_true]
  refine .inl ?_
  unfold Oper.wp
  rw [exec_eq (slots_nosel C.h3 ho) hl, hs]
  simp only [xE] at hE
  generalize s.run P w = r at *
  cases r with
  | ok x w' =>
    cases x <;> simp only at hE <;> first
      | exact hE.elim
      | exact fin _ _ hE
      | exact Calls.mono hE (fun e w'' he => by cases e <;> first | exact fin _ _ he | exact he.elim)
  | halt x w' => exact hE.elim

/-- Whatever may come up next goes through. -/
theorem Inv.next (C : Checks ops anc n) {listed : Array Bool} {a : Act} {w : World} {i : Nat} (hlt : i < ops.size) (hnl : ¬ isL listed i) (hanc : ∀ j, A anc i j → isL listed j)
    (hedge : ∀ o, ops[i]? = some o → ∀ e ∈ o.after.toList, Region.binds .any e = true → isL listed e.on) :
    ∀ (rest : Plan) (done ex : List Nat) (pend : List Pend) (kn : List (Nat × Option Bool)) (ρ : Env), Inv P ops anc n K Q ρ0 listed done rest ex pend kn ρ a w → i ∉ ex → i ∉ done →
      wpOp P ops Q i (fun a' w' => ∃ done rest pend kn ρ, Inv P ops anc n K Q ρ0 (listed.setIfInBounds i true) done rest [] pend kn ρ a' w') a w := by
  intro rest
  induction rest with
  | nil =>
    intro done ex pend kn ρ I _ hid
    have hlen := I.plan
    simp only [planOK] at hlen
    exact absurd (nodup_full I.nd I.lt (Nat.eq_of_beq_eq_true hlen) i hlt) hid
  | op j rest ih =>
    intro done ex pend kn ρ I hex hid
    have hpl := I.plan
    simp only [planOK, Bool.and_eq_true, Bool.not_eq_true'] at hpl
    obtain ⟨⟨⟨⟨⟨hlt2, hnot⟩, hedge2⟩, _⟩, heff⟩, hplan⟩ := hpl
    rcases I.meet C with ⟨pend', kn', ρ', I'⟩ | ⟨o, s, kn', ho, he, hh, hk', hgw, hE⟩
    · by_cases hid' : i ∈ j :: done
      · exact I'.carry C hid' hnl hanc (fun a' h => h)
      · exact ih (j :: done) [] pend' kn' ρ' I' (by simp) hid'
    · by_cases hij : i = j
      · subst hij
        exact I.effect C hlt hid hedge2 hplan hanc ho hh hk' hgw hE
      · exfalso
        rw [he, cond_true] at heff
        have := List.all_eq_true.1 heff i (List.mem_range.2 hlt)
        simp only [Bool.or_eq_true, Bool.not_eq_true'] at this
        rcases this with ((h | h) | h) | h
        · exact hij (Nat.eq_of_beq_eq_true h)
        · exact hid (any_beq.1 h)
        · exact hex (any_beq.1 h)
        · have : edgesIn ops done i = true := by
            unfold edgesIn
            rw [Array.getElem?_eq_getElem hlt]
            refine List.all_eq_true.2 (fun e hee => ?_)
            cases hb : Region.binds .any e with
            | false => rfl
            | true => simpa using any_beq.2 (I.sub _ (hedge _ (Array.getElem?_eq_getElem hlt) e hee hb))
          rw [this] at h
          cases h
  | alt j p q _ ihq =>
    intro done ex pend kn ρ I hex hid
    have hpl := I.plan
    simp only [planOK, Bool.and_eq_true, Bool.not_eq_true'] at hpl
    obtain ⟨⟨⟨⟨⟨⟨hlt2, hnot⟩, hedge2⟩, hgs⟩, heff⟩, hplan⟩, hplanq⟩ := hpl
    obtain ⟨hv1, hv2⟩ := I.vc
    by_cases hij : i = j
    · subst hij
      obtain ⟨o, ho, doIt, kn', hg, hcase⟩ := step_cases hv1
      -- the same operation, met as the head of a plan
      have I1 : Inv P ops anc n K Q ρ0 listed done (.op i p) ((List.range ops.size).filter fun k => !Nat.beq k i) pend kn ρ a w :=
        { I with
          plan := by
            simp only [planOK, Bool.and_eq_true, Bool.not_eq_true']
            refine ⟨⟨⟨⟨⟨hlt2, hnot⟩, hedge2⟩, hgs⟩, ?_⟩, hplan⟩
            rw [heff, cond_true]
            refine List.all_eq_true.2 (fun k hk => ?_)
            cases hb : Nat.beq k i with
            | true => simp
            | false =>
              have : ((List.range ops.size).filter fun k => !Nat.beq k i).any (fun x => Nat.beq x k) = true := any_beq.2 (List.mem_filter.2 ⟨hk, by simp [hb]⟩)
              simp [this]
          vc := hv1 }
      rcases I1.meet C with ⟨pend', kn'', ρ', I'⟩ | ⟨o, s, kn'', ho', he, hh, hk', hgw, hE⟩
      · exact I'.carry C List.mem_cons_self hnl hanc (fun a' h => h)
      · exact I1.effect C hlt hid hedge2 hplan hanc ho' hh hk' hgw hE
    · exact ihq done (j :: ex) pend kn ρ { I with plan := hplanq, vc := hv2 } (by simp [hij, hex]) hid

theorem ready_spec {listed : Array Bool} {i : Nat} (h : i ∈ Region.ready .any ops listed) (hs : listed.size = ops.size) :
    i < ops.size ∧ ¬ isL listed i ∧ ∃ o, ops[i]? = some o ∧ ∀ e ∈ o.after.toList, Region.binds .any e = true → isL listed e.on := by
  unfold Region.ready at h
  obtain ⟨h1, h2⟩ := List.mem_filter.1 h
  have hlt := List.mem_range.1 h1
  simp only [Bool.and_eq_true, Bool.not_eq_true'] at h2
  refine ⟨hlt, ?_, ops[i], Array.getElem?_eq_getElem hlt, ?_⟩
  · unfold isL
    have := h2.1
    simp only [Array.getD_eq_getD_getElem?, Array.getElem?_eq_getElem (hs ▸ hlt : i < listed.size), Option.getD_some] at this ⊢
    simp [this]
  · intro e he hb
    have h3 := h2.2
    rw [Array.getElem?_eq_getElem hlt] at h3
    simp only [Option.map_some, Option.getD_some] at h3
    have := (Array.all_eq_true'.1 h3) e (by simpa using he)
    rw [hb] at this
    unfold isL
    simpa using this

theorem ready_none (C : Checks ops anc n) {listed : Array Bool} (hs : listed.size = ops.size) (h : Region.ready .any ops listed = []) : ∀ m i, i < m → i < ops.size → isL listed i := by
  intro m
  induction m with
  | zero => intro i hi; omega
  | succ m ih =>
    intro i him hi
    cases hb : listed.getD i false with
    | true => exact hb
    | false =>
      exfalso
      have : i ∈ Region.ready .any ops listed := by
        unfold Region.ready
        refine List.mem_filter.2 ⟨List.mem_range.2 hi, ?_⟩
        simp only [Bool.and_eq_true, Bool.not_eq_true']
        constructor
        · simp only [Array.getD_eq_getD_getElem?, Array.getElem?_eq_getElem (hs ▸ hi : i < listed.size), Option.getD_some] at hb ⊢
          exact hb
        · rw [Array.getElem?_eq_getElem hi]
          simp only [Option.map_some, Option.getD_some]
          refine Array.all_eq_true'.2 (fun e he => ?_)
          cases hbb : Region.binds .any e with
          | false => simp
          | true =>
            have hai := List.all_eq_true.1 C.h1 i (List.mem_range.2 hi)
            unfold ancOK at hai
            rw [Array.getElem?_eq_getElem hi] at hai
            simp only [Bool.and_eq_true] at hai
            have hlt := List.all_eq_true.1 hai.2 e (by simpa using he)
            rw [hbb] at hlt
            have hlt' : e.on < i := by simpa [Nat.blt_eq] using hlt
            have := ih e.on (by omega) (by omega)
            unfold isL at this
            rw [this]; rfl
      rw [h] at this
      cases this

theorem Inv.all (C : Checks ops anc n) : ∀ (fuel : Nat) (listed : Array Bool) (a : Act) (w : World),
    (∀ a ρ w, Rep n a ρ → K ρ w → (∀ t, t ∉ writesOps ops → ρ t = ρ0 t) → Q .normal a w) →
    ((List.range ops.size).filter fun i => !listed.getD i false).length ≤ fuel →
    (∃ done rest pend kn ρ, Inv P ops anc n K Q ρ0 listed done rest [] pend kn ρ a w) → wpAny P .any ops Q fuel listed a w := by
  intro fuel
  have last : ∀ (listed : Array Bool) (a : Act) (w : World), (∀ a ρ w, Rep n a ρ → K ρ w → (∀ t, t ∉ writesOps ops → ρ t = ρ0 t) → Q .normal a w) →
      (∃ done rest pend kn ρ, Inv P ops anc n K Q ρ0 listed done rest [] pend kn ρ a w) → Region.ready .any ops listed = [] → Q .normal a w := by
    intro listed a w hQ ⟨done, rest, pend, kn, ρ, I⟩ hr
    have hall : ∀ i, i < ops.size → isL listed i := fun i hi => ready_none C I.size hr (i + 1) i (by omega) hi
    -- all is done: what is left of the plan can be nothing
    have hnil : ∃ ρ', K ρ' w ∧ (∀ t, ¬ Wr ops (· ∈ done) t → ρ' t = ρ0 t) ∧ (∀ t, Wr ops (isL listed) t → a.tmps.getD t undef = ρ' t) := by
      have hd : ∀ k, k < ops.size → k ∈ done := fun k hk => I.sub k (hall k hk)
      have hv := I.vc
      have hp := I.plan
      cases rest with
      | nil => exact ⟨ρ, hv, I.rho, fun t => (I.acts t).1⟩
      | op i p =>
        simp only [planOK, Bool.and_eq_true, Bool.not_eq_true'] at hp
        obtain ⟨⟨⟨⟨⟨hlt2, hnot⟩, _⟩, _⟩, _⟩, _⟩ := hp
        rw [any_beq.2 (hd i (by simpa [Nat.blt_eq] using hlt2))] at hnot
        cases hnot
      | alt i p q =>
        simp only [planOK, Bool.and_eq_true, Bool.not_eq_true'] at hp
        obtain ⟨⟨⟨⟨⟨⟨hlt2, hnot⟩, _⟩, _⟩, _⟩, _⟩, _⟩ := hp
        rw [any_beq.2 (hd i (by simpa [Nat.blt_eq] using hlt2))] at hnot
        cases hnot
    obtain ⟨ρ', hv, hrho, hacts⟩ := hnil
    refine hQ a ρ' w ⟨I.df, I.sz, fun t => ?_⟩ hv (fun t ht => hrho t (fun ⟨k, _, o, ho, hd⟩ => ht (mem_writesOps ho hd)))
    by_cases hw : Wr ops (isL listed) t
    · exact hacts t hw
    · rw [(I.acts t).2 hw]
      refine (hrho t (fun ⟨k, hk, hw'⟩ => hw ⟨k, hall k (I.lt k hk), hw'⟩)).symm
  induction fuel with
  | zero =>
    intro listed a w hQ hf hI
    obtain ⟨done, rest, pend, kn, ρ, I⟩ := hI
    have hr : Region.ready .any ops listed = [] := by
      refine List.eq_nil_iff_forall_not_mem.2 (fun i hi => ?_)
      obtain ⟨h1, h2, _⟩ := ready_spec hi I.size
      have : i ∈ (List.range ops.size).filter fun i => !listed.getD i false := List.mem_filter.2 ⟨List.mem_range.2 h1, by
        unfold isL at h2
        simpa using h2⟩
      rw [List.eq_nil_of_length_eq_zero (Nat.le_zero.1 hf)] at this
      cases this
    exact ⟨hr, last listed a w hQ ⟨done, rest, pend, kn, ρ, I⟩ hr⟩
  | succ fuel ih =>
    intro listed a w hQ hf hI
    refine ⟨last listed a w hQ hI, fun i hi => ?_⟩
    obtain ⟨done, rest, pend, kn, ρ, I⟩ := hI
    obtain ⟨h1, h2, o, ho, he⟩ := ready_spec hi I.size
    have hanc : ∀ j, A anc i j → isL listed j := by
      intro j hj
      obtain ⟨o', ho', e, hee, hb, _, hjj⟩ := anc_step C.h1 C.h2 hj
      rw [ho] at ho'; cases ho'
      have hon := he e hee hb
      rcases hjj with rfl | hjj
      · exact hon
      · exact I.closed _ hon j hjj
    have hdec : ((List.range ops.size).filter fun k => !(listed.setIfInBounds i true).getD k false).length ≤ fuel :=
      Nat.le_of_lt_succ (Nat.lt_of_lt_of_le (count_lt h1 (I.size ▸ h1) (by unfold isL at h2; simpa using h2)) hf)
    by_cases hx : i ∈ done
    · exact wpOp_mono (fun a' w' hI' => ih _ _ _ hQ hdec hI') (I.carry C hx h2 hanc (fun a' h => h))
    · exact wpOp_mono (fun a' w' hI' => ih _ _ _ hQ hdec hI') (I.next C h1 h2 hanc (fun o' ho' e hee hb => by rw [ho] at ho'; cases ho'; exact he e hee hb) rest done [] pend kn ρ (by simp) hx)

/-- The region that draws. -/
theorem regVC_draw {plan : Plan} (hc : drawOK P ops anc n plan = true) (hm : P.follows .mixedOrders = true) {id : Nat} {a : Act} {w : World}
    (hQ : ∀ a ρ w, Rep n a ρ → K ρ w → (∀ t, t ∉ writesOps ops → ρ t = ρ0 t) → Q .normal a w)
    (hr : Rep n a ρ0) (h : regVC P ops true anc K plan [] [] ρ0 w.drew) : (Code.region id ops true).wp P Q a w := by
  simp only [drawOK, Bool.and_eq_true] at hc
  obtain ⟨⟨⟨⟨⟨hu, hb⟩, hpl⟩, h1⟩, h2⟩, h3⟩ := hc
  have C : Checks ops anc n := ⟨hu, hb, h1, h2, h3⟩
  refine wp_region_any hm (Inv.all C ops.size _ a _ hQ ?_ ⟨[], plan, [], [], ρ0, ?_⟩)
  · exact Nat.le_trans (List.length_filter_le _ _) (by simp)
  · have hno : ∀ i, ¬ isL (Array.replicate ops.size false) i := by
      intro i hi
      unfold isL at hi
      by_cases h : i < ops.size
      · simp [Array.getD, h] at hi
      · simp [Array.getD, h] at hi
    exact {
      size := by simp, df := hr.1, sz := hr.2.1
      acts := fun t => ⟨fun ⟨k, hk, _⟩ => absurd hk (hno k), fun _ => hr.2.2 t⟩
      rho := fun _ _ => rfl
      sub := fun i hi => absurd hi (hno i)
      closed := fun i hi => absurd hi (hno i)
      dclosed := fun i hi => by cases hi
      recs := fun i hi => by cases hi
      knok := fun g ob hg => by cases hg
      plan := hpl
      nd := List.nodup_nil
      lt := fun i hi => by cases hi
      vc := h }
end
end Go.X
