import Derived.Test.YtbfaglbfpmnnmaaDoorXBase
namespace Go.X
set_option linter.unusedSimpArgs false
set_option linter.unusedVariables false
open Go

/-! ## A region: what it asks, in an order that is given -/
structure Pend where
  i : Nat
  s : Sem Next
  v : Value

def xStill (P : Program) (s : Sem Next) (v : Value) (w : World) (A : Prop) : Prop := s.run P w = .ok (.value v) w ∧ A
def still (P : Program) (w : World) : List Pend → Prop → Prop
  | [], A => A
  | p :: ps, A => xStill P p.s p.v w (still P w ps A)

def bit (m i : Nat) : Bool := Nat.beq (Nat.land (Nat.shiftRight m i) 1) 1
def kget : List (Nat × Option Bool) → Nat → Option (Option Bool)
  | [], _ => none
  | (g, b) :: r, k => bif Nat.beq g k then some b else kget r k
def slotOf (ops : Array Oper) (i : Nat) : Nat := match (ops[i]?).bind (·.dst) with | some t => t | none => 0
def beside (m : Nat) : List Pend → List Pend
  | [] => []
  | p :: r => bif bit m p.i then beside m r else p :: beside m r

/-- The order in which the operations are met: one behind the other; or one of those that may come up, and the others. -/
inductive Plan where
  | nil
  | op (i : Nat) (p : Plan)
  | alt (i : Nat) (p q : Plan)
def Plan.pre : List Nat → Plan → Plan
  | [], p => p
  | i :: r, p => .op i (Plan.pre r p)
def planOf : List Nat → Plan
  | [] => .nil
  | i :: r => .op i (planOf r)

/-- A choice whose test is known. -/
def pickKn (kn : List (Nat × Option Bool)) (o : Oper) : Option Operand := match o.op with
  | .move x => some x
  | .assign x => some x
  | .pick c a b => match c with
    | .tmp t => match kget kn t with
      | some (some bc) => some (bif bc then a else b)
      | _ => none
    | _ => none
  | _ => none
def addKn (d : Option Tmp) (x : Operand) (kn : List (Nat × Option Bool)) : List (Nat × Option Bool) := match d with
  | some d => match x with
    | .const v => match v with
      | .bool b => (d, some b) :: kn
      | _ => kn
    | .tmp t => match kget kn t with
      | some ob => (d, ob) :: kn
      | none => kn
    | _ => kn
  | none => kn
def skipKn (d : Option Tmp) (kn : List (Nat × Option Bool)) : List (Nat × Option Bool) := match d with
  | some d => (d, none) :: kn
  | none => kn

def stepVC (P : Program) (ops : Array Oper) (dr : Bool) (anc : List Nat) (i : Nat) (N : List Pend → List (Nat × Option Bool) → Env → World → Prop)
    (pend : List Pend) (kn : List (Nat × Option Bool)) (ρ : Env) (w : World) : Prop :=
  match ops[i]? with
  | none => False
  | some o =>
    let go (kn : List (Nat × Option Bool)) : Prop := match pickKn kn o with
      | some x => N pend (addKn o.dst x kn) (ρ.put o.dst (ev ρ x)) w
      | none => match how P ρ o with
        | .mv v => N pend kn (ρ.put o.dst v) w
        | .pure s => xP P s fun v => N pend kn (ρ.put o.dst v) w
        | .read s => xR P s w fun v => N (bif dr then ⟨i, s, v⟩ :: pend else pend) kn (ρ.put o.dst v) w
        | .any s => xE P s w fun v w' => still P w' (beside (anc.getD i 0) pend) (N (beside (anc.getD i 0) pend) kn (ρ.put o.dst v) w')
    let skip (kn : List (Nat × Option Bool)) : Prop := N pend (skipKn o.dst kn) (ρ.put o.dst undef) w
    match o.guard with
    | none => go kn
    | some (g, want) => match kget kn (slotOf ops g) with
      | some (some b) => bif (bif b then want else !want) then go kn else skip kn
      | some none => skip kn
      | none => xIf (ρ (slotOf ops g)) (bif want then go ((slotOf ops g, some true) :: kn) else skip ((slotOf ops g, some true) :: kn)) (bif want then skip ((slotOf ops g, some false) :: kn) else go ((slotOf ops g, some false) :: kn))

def regVC (P : Program) (ops : Array Oper) (dr : Bool) (anc : List Nat) (K : Env → World → Prop) : Plan → List Pend → List (Nat × Option Bool) → Env → World → Prop
  | .nil, _, _, ρ, w => K ρ w
  | .op i p, pend, kn, ρ, w => stepVC P ops dr anc i (fun pend kn ρ w => regVC P ops dr anc K p pend kn ρ w) pend kn ρ w
  | .alt i p q, pend, kn, ρ, w => stepVC P ops dr anc i (fun pend kn ρ w => regVC P ops dr anc K p pend kn ρ w) pend kn ρ w ∧ regVC P ops dr anc K q pend kn ρ w

def GuardSays (ops : Array Oper) (o : Oper) (kn : List (Nat × Option Bool)) (ρ : Env) (doIt : Bool) (kn' : List (Nat × Option Bool)) : Prop :=
  match o.guard with
  | none => doIt = true ∧ kn' = kn
  | some (g, want) => (∃ b, ((kget kn (slotOf ops g) = some (some b) ∧ kn' = kn) ∨ (ρ (slotOf ops g) = .bool b ∧ kn' = (slotOf ops g, some b) :: kn)) ∧ doIt = (bif b then want else !want)) ∨
      (kget kn (slotOf ops g) = some none ∧ kn' = kn ∧ doIt = false)

/-- What is left behind the head. -/
def goPart (P : Program) (dr : Bool) (anc : List Nat) (i : Nat) (N : List Pend → List (Nat × Option Bool) → Env → World → Prop) (pend : List Pend) (kn : List (Nat × Option Bool)) (o : Oper) (ρ : Env) (w : World) : Prop :=
  match pickKn kn o with
  | some x => N pend (addKn o.dst x kn) (ρ.put o.dst (ev ρ x)) w
  | none => match how P ρ o with
    | .mv v => N pend kn (ρ.put o.dst v) w
    | .pure s => xP P s fun v => N pend kn (ρ.put o.dst v) w
    | .read s => xR P s w fun v => N (bif dr then ⟨i, s, v⟩ :: pend else pend) kn (ρ.put o.dst v) w
    | .any s => xE P s w fun v w' => still P w' (beside (anc.getD i 0) pend) (N (beside (anc.getD i 0) pend) kn (ρ.put o.dst v) w')

theorem step_cases {P : Program} {ops : Array Oper} {dr : Bool} {anc : List Nat} {i : Nat} {N : List Pend → List (Nat × Option Bool) → Env → World → Prop} {pend : List Pend} {kn : List (Nat × Option Bool)} {ρ : Env} {w : World}
    (h : stepVC P ops dr anc i N pend kn ρ w) :
    ∃ o, ops[i]? = some o ∧ ∃ doIt kn', GuardSays ops o kn ρ doIt kn' ∧
      ((doIt = true ∧ goPart P dr anc i N pend kn' o ρ w) ∨
       (doIt = false ∧ N pend (skipKn o.dst kn') (ρ.put o.dst undef) w)) := by
  unfold stepVC at h
  cases ho : ops[i]? with
  | none => rw [ho] at h; exact h.elim
  | some o =>
    rw [ho] at h
    refine ⟨o, rfl, ?_⟩
    simp only at h
    unfold GuardSays
    cases hg : o.guard with
    | none =>
      rw [hg] at h
      exact ⟨true, kn, ⟨rfl, rfl⟩, .inl ⟨rfl, h⟩⟩
    | some gw =>
      obtain ⟨g, want⟩ := gw
      rw [hg] at h
      simp only at h ⊢
      cases hk : kget kn (slotOf ops g) with
      | none =>
        rw [hk] at h
        simp only at h
        rcases h with ⟨hv, h⟩ | ⟨hv, h⟩
        · refine ⟨want, (slotOf ops g, some true) :: kn, .inl ⟨true, .inr ⟨hv, rfl⟩, rfl⟩, ?_⟩
          cases want
          · exact .inr ⟨rfl, h⟩
          · exact .inl ⟨rfl, h⟩
        · refine ⟨!want, (slotOf ops g, some false) :: kn, .inl ⟨false, .inr ⟨hv, rfl⟩, rfl⟩, ?_⟩
          cases want
          · exact .inl ⟨rfl, h⟩
          · exact .inr ⟨rfl, h⟩
      | some ob =>
        rw [hk] at h
        cases ob with
        | none => exact ⟨false, kn, .inr ⟨rfl, rfl, rfl⟩, .inr ⟨rfl, h⟩⟩
        | some b =>
          simp only at h
          refine ⟨bif b then want else !want, kn, .inl ⟨b, .inl ⟨rfl, rfl⟩, rfl⟩, ?_⟩
          cases hd : (bif b then want else !want)
          · rw [hd] at h; exact .inr ⟨rfl, h⟩
          · rw [hd] at h; exact .inl ⟨rfl, h⟩

/-! ### Checks -/
def dsts (ops : Array Oper) : List (Option Nat) := ops.toList.map (·.dst)
def writesOps (ops : Array Oper) : List Nat := ops.toList.filterMap (·.dst)
def uniqL : List (Option Nat) → Bool
  | [] => true
  | none :: r => uniqL r
  | some t :: r => (r.all fun x => match x with | some u => !Nat.beq t u | none => true) && uniqL r
def boundL (n : Nat) : List (Option Nat) → Bool
  | [] => true
  | none :: r => boundL n r
  | some t :: r => Nat.blt t n && boundL n r

theorem uniqL_all {t : Nat} : ∀ {r : List (Option Nat)}, (r.all fun x => match x with | some u => !Nat.beq t u | none => true) = true → ∀ j : Nat, r[j]? ≠ some (some t) := by
  intro r h j hj
  have := List.all_eq_true.1 h (some t) (List.mem_of_getElem? hj)
  simp at this

theorem uniqL_spec : ∀ {l : List (Option Nat)}, uniqL l = true → ∀ i j t : Nat, l[i]? = some (some t) → l[j]? = some (some t) → i = j
  | [], _, i, j, t, h1, _ => by simp at h1
  | none :: r, h, i, j, t, h1, h2 => by
    cases i with
    | zero => simp at h1
    | succ i => cases j with
      | zero => simp at h2
      | succ j => exact congrArg _ (uniqL_spec (l := r) (by simpa [uniqL] using h) i j t (by simpa using h1) (by simpa using h2))
  | some u :: r, h, i, j, t, h1, h2 => by
    simp only [uniqL, Bool.and_eq_true] at h
    cases i with
    | zero =>
      simp at h1; subst h1
      cases j with
      | zero => rfl
      | succ j => exact absurd (by simpa using h2) (uniqL_all h.1 j)
    | succ i => cases j with
      | zero =>
        simp at h2; subst h2
        exact absurd (by simpa using h1) (uniqL_all h.1 i)
      | succ j => exact congrArg _ (uniqL_spec (l := r) h.2 i j t (by simpa using h1) (by simpa using h2))

theorem boundL_spec {n : Nat} : ∀ {l : List (Option Nat)}, boundL n l = true → ∀ i t : Nat, l[i]? = some (some t) → t < n
  | [], _, i, t, h1 => by simp at h1
  | none :: r, h, i, t, h1 => by
    cases i with
    | zero => simp at h1
    | succ i => exact boundL_spec (l := r) (by simpa [boundL] using h) i t (by simpa using h1)
  | some u :: r, h, i, t, h1 => by
    simp only [boundL, Bool.and_eq_true] at h
    cases i with
    | zero => simp at h1; subst h1; exact Nat.blt_eq ▸ h.1
    | succ i => exact boundL_spec (l := r) h.2 i t (by simpa using h1)

theorem dsts_get {ops : Array Oper} {i : Nat} {o : Oper} (h : ops[i]? = some o) : (dsts ops)[i]? = some o.dst := by
  simp [dsts, h]

theorem mem_writesOps {ops : Array Oper} {i : Nat} {o : Oper} {t : Nat} (h : ops[i]? = some o) (hd : o.dst = some t) : t ∈ writesOps ops := by
  unfold writesOps
  exact List.mem_filterMap.2 ⟨o, by simpa using List.mem_of_getElem? (by simpa using h : ops.toList[i]? = some o), hd⟩

/-- What is known of the guards' slots. -/
def KnOK (ops : Array Oper) (done : List Nat) (kn : List (Nat × Option Bool)) (ρ : Env) : Prop :=
  ∀ t ob, kget kn t = some ob → (∃ g o, g ∈ done ∧ ops[g]? = some o ∧ o.dst = some t) ∧ ρ t = (match ob with | some b => Value.bool b | none => undef)

/-- Each guard stands ahead of what it guards, and has a slot. -/
def guardsOK (ops : Array Oper) : List Nat → List Nat → Bool
  | _, [] => true
  | done, i :: rest => (match (ops[i]?).bind (·.guard) with
      | some (g, _) => (done.any fun k => Nat.beq k g) && ((ops[g]?).bind (·.dst)).isSome
      | none => true) && guardsOK ops (i :: done) rest

theorem Env.put_ne {ρ : Env} {d : Option Tmp} {v : Value} {t : Nat} (h : d ≠ some t) : ρ.put d v t = ρ t := by
  cases d with
  | none => rfl
  | some d =>
    simp only [Env.put]
    cases hb : Nat.beq t d with
    | false => rfl
    | true => exact absurd (congrArg some (Nat.eq_of_beq_eq_true hb).symm) h

theorem Env.put_eq {ρ : Env} {v : Value} {t : Nat} : ρ.put (some t) v t = v := by
  simp [Env.put]

theorem kget_cons {g g' : Nat} {b : Option Bool} {kn : List (Nat × Option Bool)} {ob : Option Bool} (h : kget ((g, b) :: kn) g' = some ob) : (g = g' ∧ b = ob) ∨ kget kn g' = some ob := by
  simp only [kget] at h
  cases hb : Nat.beq g g' with
  | true => rw [hb] at h; simp at h; exact .inl ⟨Nat.eq_of_beq_eq_true hb, h⟩
  | false => rw [hb] at h; exact .inr h

theorem KnOK.put {ops : Array Oper} {done : List Nat} {kn : List (Nat × Option Bool)} {ρ : Env} (h : KnOK ops done kn ρ) (hu : uniqL (dsts ops) = true) {i : Nat} {o : Oper} (ho : ops[i]? = some o) (hi : i ∉ done) (v : Value) :
    KnOK ops (i :: done) kn (ρ.put o.dst v) := by
  intro t ob hg
  obtain ⟨⟨g, o', h1, ho', hd'⟩, h2⟩ := h t ob hg
  refine ⟨⟨g, o', List.mem_cons_of_mem _ h1, ho', hd'⟩, ?_⟩
  rw [Env.put_ne (fun hd => hi (by
    have := uniqL_spec hu i g t (by rw [dsts_get ho, hd]) (by rw [dsts_get ho', hd'])
    exact this ▸ h1))]
  exact h2

theorem KnOK.cons {ops : Array Oper} {i : Nat} {done : List Nat} {kn : List (Nat × Option Bool)} {ρ : Env} (h : KnOK ops (i :: done) kn ρ) {o : Oper} (ho : ops[i]? = some o) {d : Tmp} (hd : o.dst = some d) {ob : Option Bool}
    (hv : ρ d = (match ob with | some b => Value.bool b | none => undef)) : KnOK ops (i :: done) ((d, ob) :: kn) ρ := by
  intro t ob' hg
  rcases kget_cons hg with ⟨rfl, rfl⟩ | hg
  · exact ⟨⟨i, o, List.mem_cons_self, ho, hd⟩, hv⟩
  · exact h t ob' hg

theorem KnOK.skip {ops : Array Oper} {i : Nat} {done : List Nat} {kn : List (Nat × Option Bool)} {ρ : Env} (h : KnOK ops (i :: done) kn ρ) {o : Oper} (ho : ops[i]? = some o) (hv : ∀ t, o.dst = some t → ρ t = undef) :
    KnOK ops (i :: done) (skipKn o.dst kn) ρ := by
  cases hd : o.dst with
  | none => exact h
  | some d => exact h.cons ho hd (hv d hd)

/-- A choice whose test is known: its value, and what is known behind it. -/
theorem pickKn_spec {ops : Array Oper} {done : List Nat} {kn : List (Nat × Option Bool)} {ρ : Env} (hk : KnOK ops done kn ρ) {o : Oper} {x : Operand} (h : pickKn kn o = some x) :
    execOp (ev ρ) o = Sem.pure (Next.value (ev ρ x)) := by
  unfold pickKn at h
  split at h
  · rename_i y hop
    cases h
    unfold execOp
    rw [hop]
    rfl
  · rename_i y hop
    cases h
    unfold execOp
    rw [hop]
    rfl
  · rename_i c a b hop
    split at h
    · rename_i t
      split at h
      · rename_i bc hg
        have hv := (hk t _ hg).2
        simp only [Option.some.injEq] at h
        unfold execOp
        rw [hop]
        have : ev ρ (.tmp t) = .bool bc := hv
        simp only [this]
        subst h
        cases bc <;> rfl
      · cases h
    · cases h
  · cases h

theorem KnOK.add {ops : Array Oper} {i : Nat} {done : List Nat} {kn : List (Nat × Option Bool)} {ρ : Env} (h : KnOK ops done kn ρ) (hu : uniqL (dsts ops) = true) {o : Oper} (ho : ops[i]? = some o) (hi : i ∉ done) (x : Operand) :
    KnOK ops (i :: done) (addKn o.dst x kn) (ρ.put o.dst (ev ρ x)) := by
  have hp := h.put hu ho hi (ev ρ x)
  unfold addKn
  cases hd : o.dst with
  | none => rw [hd] at hp; exact hp
  | some d =>
    rw [hd] at hp
    simp only
    split
    · rename_i v
      split
      · exact hp.cons ho hd (by rw [Env.put_eq]; rfl)
      · exact hp
    · rename_i t
      split
      · rename_i ob hg
        exact hp.cons ho hd (by rw [Env.put_eq]; exact (h t ob hg).2)
      · exact hp
    · exact hp

theorem yielded_of {n : Nat} {a : Act} {ρ : Env} (hr : Rep n a ρ) {ops : Array Oper} {g : Nat} {o : Oper} {t : Nat} (ho : ops[g]? = some o) (hd : o.dst = some t) (ht : t < n) :
    yielded ops a.tmps g = match ρ t with | .bool b => some b | _ => none := by
  have hsz := hr.2.1
  have hv := hr.2.2 t
  have h2 : a.tmps[t]? = some (ρ t) := by
    rw [← hv]
    simp [Array.getD, hsz, ht]
  unfold yielded
  rw [ho]
  simp only [Option.bind_some, hd]
  rw [h2]
  cases ρ t <;> rfl

/-- What the guard says is what the machine looks at. -/
theorem guard_wanted {ops : Array Oper} {done : List Nat} {kn kn' : List (Nat × Option Bool)} {ρ : Env} {i : Nat} {o : Oper} {doIt : Bool}
    (ho : ops[i]? = some o) (hk : KnOK ops done kn ρ) (hg : GuardSays ops o kn ρ doIt kn')
    (hgo : (match (ops[i]?).bind (·.guard) with
      | some (g, _) => (done.any fun k => Nat.beq k g) && ((ops[g]?).bind (·.dst)).isSome
      | none => true) = true) :
    KnOK ops done kn' ρ ∧
    (∀ n a ρ', Rep n a ρ' → boundL n (dsts ops) = true → (∀ g want o' t, o.guard = some (g, want) → ops[g]? = some o' → o'.dst = some t → ρ' t = ρ t) → Region.wanted o (yielded ops a.tmps) = doIt) := by
  unfold GuardSays at hg
  rw [ho] at hgo
  simp only [Option.bind_some] at hgo
  cases hgd : o.guard with
  | none =>
    rw [hgd] at hg
    obtain ⟨rfl, rfl⟩ := hg
    exact ⟨hk, fun n a ρ' _ _ _ => by simp [Region.wanted, hgd]⟩
  | some gw =>
    obtain ⟨g, want⟩ := gw
    rw [hgd] at hg hgo
    simp only [Bool.and_eq_true, Option.isSome_iff_exists] at hgo
    obtain ⟨hdone, t, ht⟩ := hgo
    have hgin : g ∈ done := by
      obtain ⟨k, hk1, hk2⟩ := List.any_eq_true.1 hdone
      exact Nat.eq_of_beq_eq_true hk2 ▸ hk1
    obtain ⟨o', ho', hd'⟩ : ∃ o', ops[g]? = some o' ∧ o'.dst = some t := by
      cases hx : ops[g]? with
      | none => rw [hx] at ht; simp at ht
      | some o' => rw [hx] at ht; exact ⟨o', rfl, by simpa using ht⟩
    have hslot : slotOf ops g = t := by unfold slotOf; rw [ht]
    have key : ∀ ob : Option Bool, ρ t = (match ob with | some b => Value.bool b | none => undef) → doIt = (match ob with | some b => (bif b then want else !want) | none => false) →
        (∀ n a ρ', Rep n a ρ' → boundL n (dsts ops) = true → ρ' t = ρ t → Region.wanted o (yielded ops a.tmps) = doIt) := by
      intro ob hv hd n a ρ' hr hb hag
      have hy := yielded_of hr ho' hd' (boundL_spec hb g t (by rw [dsts_get ho', hd']))
      rw [hag, hv] at hy
      unfold Region.wanted
      rw [hgd]
      simp only
      rw [hy, hd]
      cases ob with
      | none => simp [undef]
      | some b => cases b <;> cases want <;> rfl
    dsimp only at hg
    rw [hslot] at hg
    rcases hg with ⟨b, hb, hd⟩ | ⟨hkg, rfl, hd⟩
    · rcases hb with ⟨hkg, rfl⟩ | ⟨hv, rfl⟩
      · have hv := (hk t _ hkg).2
        exact ⟨hk, fun n a ρ' hr hb' hag => key (some b) hv hd n a ρ' hr hb' (hag g want o' t rfl ho' hd')⟩
      · refine ⟨?_, fun n a ρ' hr hb' hag => key (some b) hv hd n a ρ' hr hb' (hag g want o' t rfl ho' hd')⟩
        intro t' ob hg'
        rcases kget_cons hg' with ⟨rfl, rfl⟩ | hg'
        · exact ⟨⟨g, o', hgin, ho', hd'⟩, hv⟩
        · exact hk t' ob hg'
    · have hv := (hk t _ hkg).2
      exact ⟨hk, fun n a ρ' hr hb' hag => key none hv hd n a ρ' hr hb' (hag g want o' t rfl ho' hd')⟩

/-- The undrawn region. -/
theorem regVC_seq {P : Program} {ops : Array Oper} {anc : List Nat} {n : Nat} {K : Env → World → Prop} {Q : Exit → Act → World → Prop}
    (hu : uniqL (dsts ops) = true) (hb : boundL n (dsts ops) = true) (ρ0 : Env)
    (hQ : ∀ a ρ w, Rep n a ρ → K ρ w → (∀ t, t ∉ writesOps ops → ρ t = ρ0 t) → Q .normal a w) :
    ∀ (rest done : List Nat) (pend : List Pend) (kn : List (Nat × Option Bool)) (ρ : Env) (a : Act) (w : World),
      (∀ i ∈ rest, i ∉ done) → rest.Nodup → guardsOK ops done rest = true → KnOK ops done kn ρ → Rep n a ρ → (∀ t, t ∉ writesOps ops → ρ t = ρ0 t) →
      regVC P ops false anc K (planOf rest) pend kn ρ w → wpOps P ops Q rest a w := by
  intro rest
  induction rest with
  | nil => intro done pend kn ρ a w _ _ _ _ hr hw h; exact hQ a ρ w hr h hw
  | cons i rest ih =>
    intro done pend kn ρ a w hdis hnd hgs hk hr hw h
    obtain ⟨o, ho, doIt, kn', hg, hcase⟩ := step_cases h
    simp only [guardsOK, Bool.and_eq_true] at hgs
    obtain ⟨hk', hwant⟩ := guard_wanted ho hk hg hgs.1
    have hwd := hwant n a ρ hr hb (fun _ _ _ _ _ _ _ => rfl)
    have hi : i ∉ done := hdis i List.mem_cons_self
    have hnd' := List.nodup_cons.1 hnd
    have hdis' : ∀ j ∈ rest, j ∉ i :: done := by
      intro j hj hm
      rcases List.mem_cons.1 hm with rfl | hm
      · exact hnd'.1 hj
      · exact hdis j (List.mem_cons_of_mem _ hj) hm
    have hdn : ∀ t, o.dst = some t → t < n := fun t ht => boundL_spec hb i t (by rw [dsts_get ho, ht])
    have hwr : ∀ v t, t ∉ writesOps ops → (ρ.put o.dst v) t = ρ0 t := by
      intro v t ht
      rw [Env.put_ne (fun hd => ht (mem_writesOps ho hd))]
      exact hw t ht
    simp only [wpOps, ho, hwd]
    rcases hcase with ⟨rfl, hgo⟩ | ⟨rfl, hskip⟩
    · refine .inl ?_
      have step' : ∀ v w' pend' kn'', KnOK ops (i :: done) kn'' (ρ.put o.dst v) → regVC P ops false anc K (planOf rest) pend' kn'' (ρ.put o.dst v) w' → wpOps P ops Q rest (a.put o.dst v) w' := fun v w' pend' kn'' hkn h =>
        ih (i :: done) pend' kn'' _ _ _ hdis' hnd'.2 hgs.2 hkn (hr.put hdn v) (hwr v) h
      have step : ∀ v w' pend', regVC P ops false anc K (planOf rest) pend' kn' (ρ.put o.dst v) w' → wpOps P ops Q rest (a.put o.dst v) w' := fun v w' pend' h =>
        step' v w' pend' kn' (hk'.put hu ho hi v) h
      unfold goPart at hgo
      cases hpk : pickKn kn' o with
      | some x =>
        rw [hpk] at hgo
        unfold Oper.wp
        rw [hr.ev, pickKn_spec hk' hpk]
        exact step' _ _ _ _ (hk'.add hu ho hi x) hgo
      | none =>
      rw [hpk] at hgo
      simp only at hgo
      have hdo : doHow P (how P ρ o) w (fun v w' => wpOps P ops Q rest (a.put o.dst v) w') := by
        cases hh : how P ρ o with
        | mv v => rw [hh] at hgo; exact step v w _ hgo
        | pure s => rw [hh] at hgo; obtain ⟨v, h1, h2⟩ := hgo; exact ⟨v, h1, step v w _ h2⟩
        | read s => rw [hh] at hgo; obtain ⟨v, h1, h2⟩ := hgo; exact ⟨v, h1, step v w _ h2⟩
        | any s =>
          rw [hh] at hgo
          simp only [doHow, xE] at hgo ⊢
          have fin : ∀ (l : List Pend) (A : Prop) (w' : World), still P w' l A → A := by
            intro l
            induction l with
            | nil => exact fun A w' h => h
            | cons p l ih => exact fun A w' h => ih A w' h.2
          split at hgo <;> first
            | exact hgo.elim
            | exact step _ _ _ (fin _ _ _ hgo)
            | exact Calls.mono hgo (fun e w'' he => by cases e <;> first | exact step _ _ _ (fin _ _ _ he) | exact he.elim)
      exact Oper.wp_mono (fun a' w' ⟨v, hv, hx⟩ => hv ▸ hx) (doHow_sound hr hdo)
    · exact ih (i :: done) pend _ _ _ _ hdis' hnd'.2 hgs.2
        ((hk'.put hu ho hi undef).skip ho (fun t ht => by rw [ht]; exact Env.put_eq)) (hr.put hdn undef) (hwr undef) hskip

end Go.X
