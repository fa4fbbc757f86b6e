import Derived.Orders
import Derived.Laws.World
import Derived.Laws.Sem
import Derived.WalkKit
import Derived.WalkLawsBesides
import Derived.Great.FillDense
import Derived.Great.BuildSlice
/-! XBase -/
namespace Go.X
set_option linter.unusedSimpArgs false
set_option linter.unusedVariables false
open Go

/-! ## Environments -/
abbrev Env := Nat → Value
def Env.put (ρ : Env) (d : Option Tmp) (v : Value) : Env :=
  match d with
  | none => ρ
  | some d => fun t => bif Nat.beq t d then v else ρ t
def ev (ρ : Env) : Operand → Value
  | .tmp t => ρ t
  | .const v => v
  | .global g => .pointer (some ⟨g, 0, none⟩)
  | .func f => .func (.func f) #[] #[]
def ofList (l : List Value) : Env := fun t => l.getD t undef

/-- The act a bears the environment ρ in n slots. -/
def Rep (n : Nat) (a : Act) (ρ : Env) : Prop := a.defers = [] ∧ a.tmps.size = n ∧ ∀ t, a.tmps.getD t undef = ρ t

theorem Rep.ev {n : Nat} {a : Act} {ρ : Env} (h : Rep n a ρ) : a.eval = ev ρ := by
  funext x
  cases x with
  | tmp t => exact h.2.2 t
  | _ => rfl

theorem Rep.put {n : Nat} {a : Act} {ρ : Env} (h : Rep n a ρ) {d : Option Tmp} (hd : ∀ t, d = some t → t < n) (v : Value) : Rep n (a.put d v) (ρ.put d v) := by
  cases d with
  | none => exact h
  | some d =>
    refine ⟨h.1, by simp [Act.put, h.2.1], fun t => ?_⟩
    have hdn := hd d rfl
    have hsz := h.2.1
    have ht := h.2.2 t
    simp only [Act.put, Env.put]
    by_cases htd : t = d
    · subst htd
      simp [Array.getD, hsz, hdn]
    · have : Nat.beq t d = false := by
        cases hb : Nat.beq t d with
        | false => rfl
        | true => exact absurd (Nat.eq_of_beq_eq_true hb) htd
      rw [this, cond_false, ← ht]
      simp only [Array.getD_eq_getD_getElem?]
      rw [Array.getElem?_setIfInBounds_ne (Ne.symm htd)]

theorem Rep.ofArgs (args : List Value) (n : Nat) (h : args.length ≤ n) :
    Rep n { tmps := args.toArray ++ Array.replicate (n - args.toArray.size) undef, defers := [] } (ofList args) := by
  refine ⟨rfl, by simp; omega, fun t => ?_⟩
  simp only [ofList, Array.getD_eq_getD_getElem?, List.getD_eq_getElem?_getD, Array.getElem?_append, List.size_toArray, Array.getElem?_replicate, List.getElem?_toArray]
  by_cases ht : t < args.length
  · simp [ht]
  · rw [if_neg ht]
    have : args[t]? = none := List.getElem?_eq_none (by omega)
    rw [this]
    split <;> simp

/-! ## Small predicates: what an operation asks -/
/-- A pure step: in whatever world. -/
def xP (P : Program) (s : Sem Next) (K : Value → Prop) : Prop := ∃ v, (∀ w, s.run P w = .ok (.value v) w) ∧ K v
/-- A reading step. -/
def xR (P : Program) (s : Sem Next) (w : World) (K : Value → Prop) : Prop := ∃ v, s.run P w = .ok (.value v) w ∧ K v
def Ret (K : Value → World → Prop) : Ending → World → Prop
  | .returned v, w => K v w
  | _, _ => False
/-- Any step. -/
def xE (P : Program) (s : Sem Next) (w : World) (K : Value → World → Prop) : Prop :=
  match s.run P w with
  | .ok (.value v) w' => K v w'
  | .ok .skip w' => K undef w'
  | .ok (.enter f args) w' => Calls P f args w' (Ret K)
  | _ => False
def xIf (v : Value) (A B : Prop) : Prop := (v = .bool true ∧ A) ∨ (v = .bool false ∧ B)

/-! ## The operations' own words -/
def sAlloc (e : TypeId) : Sem Next := do pure (.value (← Instr.alloc e true (.tuple #[])))
def sBox (e : TypeId) (v : Value) : Sem Next := do pure (.value (← Instr.box e v))
def sBuild (t : TypeId) (ps : Array (Nat × Value)) : Sem Next := do pure (.value (← Instr.build t ps))
def sBuildSlice (t : TypeId) (n : Nat) (ps : Array (Nat × Value)) : Sem Next := do pure (.value (← Instr.buildSlice t n ps))
def sLoad (t : TypeId) (v : Value) : Sem Next := do pure (.value (← Instr.loadAt t v))
def sStore (t : TypeId) (p v : Value) : Sem Next := do Instr.storeAt t p v; pure .skip
def sNil (v : Value) : Sem Next := execOp (fun _ => v) ⟨none, .nilCheck (.tmp 0), 0, "", #[], none⟩
def sBin (op : BinOp) (t : TypeId) (a b : Value) : Sem Next := do pure (.value (← binOp op t a b))
/-- '==' and '!='; c: is one of the two written as a constant? -/
def sEq (op : BinOp) (t : TypeId) (c : Bool) (a b : Value) : Sem Next := do pure (.value (← (do eqGuard op t (bif c then .const undef else .tmp 0) (.tmp 0) a b; binOp op t a b)))
def sUn (op : UnOp) (v : Value) : Sem Next := do pure (.value (← Op.unary op v))
def sConv (s d : TypeId) (v : Value) : Sem Next := do pure (.value (← convert s d v))
def sIface (t : TypeId) (v : Value) : Sem Next := do pure (.value (← Instr.makeInterface t v))
def sFunc (fn : Fn) (a b : Array Value) : Sem Next := do pure (.value (← Instr.makeFunc fn a b))
def sMakeMap (t : TypeId) (v : Option Value) : Sem Next := do pure (.value (← Instr.makeMap t v))
def sMakeSlice (t : TypeId) (a b : Value) : Sem Next := do pure (.value (← Instr.makeSlice t a b))
def sSlice (t : TypeId) (x : Value) (lo hi mx : Option Value) : Sem Next := do pure (.value (← Instr.sliceAt t x lo hi mx))
def sFA (t : TypeId) (v : Value) (f : Nat) : Sem Next := do pure (.value (← Instr.fieldAt t v f))
def sField (t : TypeId) (v : Value) (f : Nat) : Sem Next := do pure (.value (← Instr.field t v f))
def sIA (t : TypeId) (v i : Value) : Sem Next := do pure (.value (← Instr.indexAt t v i))
def sIndex (t : TypeId) (v i : Value) : Sem Next := do pure (.value (← Instr.index t v i))
def sLookup (t : TypeId) (v i : Value) (ok : Bool) : Sem Next := do pure (.value (← Instr.lookup t v i ok))
def sMapUpdate (t : TypeId) (m k v : Value) : Sem Next := do Instr.mapUpdate t m k v; pure .skip
def sRange (t : TypeId) (v : Value) : Sem Next := do pure (.value (← Instr.range t v))
def sNext (v : Value) (s : Bool) (t : TypeId) : Sem Next := do pure (.value (← Instr.next v s t))
def sEntry (v : Value) : Sem Next := do pure (.value (← Instr.entry v))
def sAssert (v : Value) (t a : TypeId) (ok : Bool) : Sem Next := do pure (.value (← Instr.typeAssert v t a ok))
def sExtract (v : Value) (i : Nat) : Sem Next := do pure (.value (← Instr.extract v i))
def sPick (c a b : Value) : Sem Next := do pure (.value (if ← asBool c then a else b))
def sBuiltin (b : Builtin) (ts : Array TypeId) (t : TypeId) (cs : Array Bool) (vs : Array Value) : Sem Next := builtin b ts t cs vs
def sB (b : Builtin) (ts : Array TypeId) (vs : Array Value) : Sem Next := builtin b ts 0 #[] vs
def sCallV (f : Value) (args : Array Value) : Sem Next := do let d ← Deferred.ofValue f args; invoke d.target d.args
def sCall (f : FuncId) (args : Array Value) : Sem Next := sCallV (.func (.func f) #[] #[]) args
def sInvoke (m : String) (args : Array Value) : Sem Next := invoke (.fn (.method m) #[]) args

def isC (xs : Array Operand) : Array Bool := xs.map fun | .const _ => true | _ => false
def isK : Operand → Bool
  | .const _ => true
  | _ => false
def amap {α β : Type} (f : α → β) (a : Array α) : Array β := (a.toList.map f).toArray
theorem amap_eq {α β : Type} (f : α → β) (a : Array α) : amap f a = a.map f := by
  unfold amap
  rw [← Array.toList_map]

/-- How an operation is met: its value is at hand; pure; reads; any. -/
inductive How where
  | mv (v : Value)
  | pure (s : Sem Next)
  | read (s : Sem Next)
  | any (s : Sem Next)

def isMap (P : Program) (t : TypeId) : Bool := match P.underlying t with | some (.map ..) => true | _ => false
def isInt (P : Program) (t : TypeId) : Bool := match P.underlying t with | some (.int _) => true | _ => false

def how (P : Program) (ρ : Env) (o : Oper) : How :=
  match o.op with
  | .move x => .mv (ev ρ x)
  | .assign x => .mv (ev ρ x)
  | .pick c a b => .pure (sPick (ev ρ c) (ev ρ a) (ev ρ b))
  | .alloc e => .any (sAlloc e)
  | .box e x => .any (sBox e (ev ρ x))
  | .build t ps => .pure (sBuild t (amap (fun p => (p.1, ev ρ p.2)) ps))
  | .buildSlice t n ps => .any (sBuildSlice t n (amap (fun p => (p.1, ev ρ p.2)) ps))
  | .load t a => .read (sLoad t (ev ρ a))
  | .store t a x => .any (sStore t (ev ρ a) (ev ρ x))
  | .nilCheck x => .pure (sNil (ev ρ x))
  | .binOp op t x y _ => match op with
    | .eql => .read (sEq .eql t (isK x || isK y) (ev ρ x) (ev ρ y))
    | .neq => .read (sEq .neq t (isK x || isK y) (ev ρ x) (ev ρ y))
    | op => .pure (sBin op t (ev ρ x) (ev ρ y))
  | .unOp op _ x => .pure (sUn op (ev ρ x))
  | .convert s d x => bif isInt P s && isInt P d then .pure (sConv s d (ev ρ x)) else .any (sConv s d (ev ρ x))
  | .makeInterface t x => .pure (sIface t (ev ρ x))
  | .makeFunc fn a b => .pure (sFunc fn (amap (ev ρ) a) (amap (ev ρ) b))
  | .makeMap t r => .any (sMakeMap t (r.map (ev ρ)))
  | .makeSlice t a b => .any (sMakeSlice t (ev ρ a) (ev ρ b))
  | .slice t x lo hi mx => .pure (sSlice t (ev ρ x) (lo.map (ev ρ)) (hi.map (ev ρ)) (mx.map (ev ρ)))
  | .fieldAddr t x f => .pure (sFA t (ev ρ x) f)
  | .field t x f => .pure (sField t (ev ρ x) f)
  | .indexAddr t x i => .pure (sIA t (ev ρ x) (ev ρ i))
  | .index t x i => .pure (sIndex t (ev ρ x) (ev ρ i))
  | .lookup t x i ok => .read (sLookup t (ev ρ x) (ev ρ i) ok)
  | .mapUpdate t m k v => .any (sMapUpdate t (ev ρ m) (ev ρ k) (ev ρ v))
  | .insert t m k v => .any (sMapUpdate t (ev ρ m) (ev ρ k) (ev ρ v))
  | .range t x => .any (sRange t (ev ρ x))
  | .next it s => .any (sNext (ev ρ it) s o.type)
  | .entry it => .read (sEntry (ev ρ it))
  | .typeAssert x t a ok => .pure (sAssert (ev ρ x) t a ok)
  | .extract x i => .pure (sExtract (ev ρ x) i)
  | .call c => match c.callee with
    | .value f => match f with
      | .func g => .any (sCall g (amap (ev ρ) c.args))
      | f => .any (sCallV (ev ρ f) (amap (ev ρ) c.args))
    | .invoke r m => .any (sInvoke m (ev ρ r :: c.args.toList.map (ev ρ)).toArray)
    | .builtin b => match b with
      | .len => bif isMap P (c.argTypes.getD 0 0) then .read (sB .len c.argTypes (amap (ev ρ) c.args)) else .pure (sB .len c.argTypes (amap (ev ρ) c.args))
      | .cap => .pure (sB .cap c.argTypes (amap (ev ρ) c.args))
      | .min => .pure (sB .min c.argTypes (amap (ev ρ) c.args))
      | .max => .pure (sB .max c.argTypes (amap (ev ρ) c.args))
      | .append => .any (sB .append c.argTypes (amap (ev ρ) c.args))
      | .copy => .any (sB .copy c.argTypes (amap (ev ρ) c.args))
      | .delete => .any (sB .delete c.argTypes (amap (ev ρ) c.args))
      | .clear => .any (sB .clear c.argTypes (amap (ev ρ) c.args))
      | b => .any (sBuiltin b c.argTypes o.type (isC c.args) (amap (ev ρ) c.args))
  | _ => .any (execOp (ev ρ) o)

/-- What the step must give. -/
def doHow (P : Program) (h : How) (w : World) (K : Value → World → Prop) : Prop :=
  match h with
  | .mv v => K v w
  | .pure s => xP P s fun v => K v w
  | .read s => xR P s w fun v => K v w
  | .any s => xE P s w K


def How.is (h : How) (s : Sem Next) : Prop :=
  match h with
  | .mv v => s = Sem.pure (Next.value v)
  | .pure s' => s = s'
  | .read s' => s = s'
  | .any s' => s = s'

theorem eqGuard_k (op : BinOp) (t : TypeId) (x y : Operand) (a b : Value) :
    eqGuard op t x y a b = eqGuard op t (bif isK x || isK y then .const undef else .tmp 0) (.tmp 0) a b := by
  cases x <;> cases y <;> simp only [isK, Bool.or_true, Bool.or_false, cond_true, cond_false] <;> unfold eqGuard <;> rfl

theorem how_spec (P : Program) (ρ : Env) (o : Oper) : (how P ρ o).is (execOp (ev ρ) o) := by
  obtain ⟨dst, op, type, pos, after, guard⟩ := o
  cases op
  case build t ps => simp only [how, amap_eq]; rfl
  case buildSlice t n ps => simp only [how, amap_eq]; rfl
  case makeFunc fn a b => simp only [how, amap_eq]; rfl
  case binOp b t x y yt =>
    cases b
    case eql => simp only [how, How.is, execOp, sEq]; rw [eqGuard_k]
    case neq => simp only [how, How.is, execOp, sEq]; rw [eqGuard_k]
    all_goals rfl
  case convert s d x =>
    simp only [how]
    cases isInt P s && isInt P d <;> rfl
  case call c =>
    obtain ⟨callee, args, ats⟩ := c
    cases callee with
    | value f => cases f <;> simp only [how, amap_eq] <;> rfl
    | invoke r m =>
      have : (ev ρ r :: args.toList.map (ev ρ)).toArray = #[ev ρ r] ++ args.map (ev ρ) := by
        rw [← List.singleton_append, ← List.append_toArray, ← Array.toList_map]
      simp only [how, this]
      rfl
    | builtin b =>
      cases b <;> simp only [how, amap_eq] <;> first | rfl | (cases isMap P (ats.getD 0 0) <;> rfl)
  all_goals rfl

theorem doHow_sound {P : Program} {n : Nat} {a : Act} {ρ : Env} {o : Oper} {w : World} {K : Value → World → Prop} {Q : Exit → Act → World → Prop}
    (hr : Rep n a ρ) (h : doHow P (how P ρ o) w K) : o.wp P a w (fun a' w' => ∃ v, a' = a.put o.dst v ∧ K v w') Q := by
  have hs := how_spec P ρ o
  unfold Oper.wp
  rw [hr.ev]
  generalize how P ρ o = hh at *
  cases hh with
  | mv v =>
    simp only [How.is] at hs
    rw [hs]
    exact ⟨v, rfl, h⟩
  | pure s =>
    simp only [How.is] at hs
    obtain ⟨v, h1, h2⟩ := h
    rw [hs, h1 w]
    exact ⟨v, rfl, h2⟩
  | read s =>
    simp only [How.is] at hs
    obtain ⟨v, h1, h2⟩ := h
    rw [hs, h1]
    exact ⟨v, rfl, h2⟩
  | any s =>
    simp only [How.is] at hs
    rw [hs]
    simp only [doHow, xE] at h
    generalize s.run P w = r at *
    cases r with
    | ok x w' =>
      cases x <;> simp only at h <;> first
        | exact h.elim
        | exact ⟨_, rfl, h⟩
        | exact Calls.mono h (fun e w'' he => by cases e <;> first | exact ⟨_, rfl, he⟩ | exact he.elim)
    | halt x w' => exact h.elim
end Go.X

/-! XReg -/
namespace Go.X
set_option linter.unusedSimpArgs false
set_option linter.unusedVariables false
open Go

/-! ## A region: what it asks, in an order that is given -/
structure Pend where
  i : Nat
  s : Sem Next
  v : Value

def xStill (P : Program) (s : Sem Next) (v : Value) (w : World) (A : Prop) : Prop := s.run P w = .ok (.value v) w ∧ A
def still (P : Program) (w : World) : List Pend → Prop → Prop
  | [], A => A
  | p :: ps, A => xStill P p.s p.v w (still P w ps A)

def bit (m i : Nat) : Bool := Nat.beq (Nat.land (Nat.shiftRight m i) 1) 1
def kget : List (Nat × Option Bool) → Nat → Option (Option Bool)
  | [], _ => none
  | (g, b) :: r, k => bif Nat.beq g k then some b else kget r k
def slotOf (ops : Array Oper) (i : Nat) : Nat := match (ops[i]?).bind (·.dst) with | some t => t | none => 0
def beside (m : Nat) : List Pend → List Pend
  | [] => []
  | p :: r => bif bit m p.i then beside m r else p :: beside m r

/-- The order in which the operations are met: one behind the other; or one of those that may come up, and the others. -/
inductive Plan where
  | nil
  | op (i : Nat) (p : Plan)
  | alt (i : Nat) (p q : Plan)
def Plan.pre : List Nat → Plan → Plan
  | [], p => p
  | i :: r, p => .op i (Plan.pre r p)
def planOf : List Nat → Plan
  | [] => .nil
  | i :: r => .op i (planOf r)

/-- A choice whose test is known. -/
def pickKn (kn : List (Nat × Option Bool)) (o : Oper) : Option Operand := match o.op with
  | .move x => some x
  | .assign x => some x
  | .pick c a b => match c with
    | .tmp t => match kget kn t with
      | some (some bc) => some (bif bc then a else b)
      | _ => none
    | _ => none
  | _ => none
def addKn (d : Option Tmp) (x : Operand) (kn : List (Nat × Option Bool)) : List (Nat × Option Bool) := match d with
  | some d => match x with
    | .const v => match v with
      | .bool b => (d, some b) :: kn
      | _ => kn
    | .tmp t => match kget kn t with
      | some ob => (d, ob) :: kn
      | none => kn
    | _ => kn
  | none => kn
def skipKn (d : Option Tmp) (kn : List (Nat × Option Bool)) : List (Nat × Option Bool) := match d with
  | some d => (d, none) :: kn
  | none => kn

def stepVC (P : Program) (ops : Array Oper) (dr : Bool) (anc : List Nat) (i : Nat) (N : List Pend → List (Nat × Option Bool) → Env → World → Prop)
    (pend : List Pend) (kn : List (Nat × Option Bool)) (ρ : Env) (w : World) : Prop :=
  match ops[i]? with
  | none => False
  | some o =>
    let go (kn : List (Nat × Option Bool)) : Prop := match pickKn kn o with
      | some x => N pend (addKn o.dst x kn) (ρ.put o.dst (ev ρ x)) w
      | none => match how P ρ o with
        | .mv v => N pend kn (ρ.put o.dst v) w
        | .pure s => xP P s fun v => N pend kn (ρ.put o.dst v) w
        | .read s => xR P s w fun v => N (bif dr then ⟨i, s, v⟩ :: pend else pend) kn (ρ.put o.dst v) w
        | .any s => xE P s w fun v w' => still P w' (beside (anc.getD i 0) pend) (N (beside (anc.getD i 0) pend) kn (ρ.put o.dst v) w')
    let skip (kn : List (Nat × Option Bool)) : Prop := N pend (skipKn o.dst kn) (ρ.put o.dst undef) w
    match o.guard with
    | none => go kn
    | some (g, want) => match kget kn (slotOf ops g) with
      | some (some b) => bif (bif b then want else !want) then go kn else skip kn
      | some none => skip kn
      | none => xIf (ρ (slotOf ops g)) (bif want then go ((slotOf ops g, some true) :: kn) else skip ((slotOf ops g, some true) :: kn)) (bif want then skip ((slotOf ops g, some false) :: kn) else go ((slotOf ops g, some false) :: kn))

def regVC (P : Program) (ops : Array Oper) (dr : Bool) (anc : List Nat) (K : Env → World → Prop) : Plan → List Pend → List (Nat × Option Bool) → Env → World → Prop
  | .nil, _, _, ρ, w => K ρ w
  | .op i p, pend, kn, ρ, w => stepVC P ops dr anc i (fun pend kn ρ w => regVC P ops dr anc K p pend kn ρ w) pend kn ρ w
  | .alt i p q, pend, kn, ρ, w => stepVC P ops dr anc i (fun pend kn ρ w => regVC P ops dr anc K p pend kn ρ w) pend kn ρ w ∧ regVC P ops dr anc K q pend kn ρ w

def GuardSays (ops : Array Oper) (o : Oper) (kn : List (Nat × Option Bool)) (ρ : Env) (doIt : Bool) (kn' : List (Nat × Option Bool)) : Prop :=
  match o.guard with
  | none => doIt = true ∧ kn' = kn
  | some (g, want) => (∃ b, ((kget kn (slotOf ops g) = some (some b) ∧ kn' = kn) ∨ (ρ (slotOf ops g) = .bool b ∧ kn' = (slotOf ops g, some b) :: kn)) ∧ doIt = (bif b then want else !want)) ∨
      (kget kn (slotOf ops g) = some none ∧ kn' = kn ∧ doIt = false)

/-- What is left behind the head. -/
def goPart (P : Program) (dr : Bool) (anc : List Nat) (i : Nat) (N : List Pend → List (Nat × Option Bool) → Env → World → Prop) (pend : List Pend) (kn : List (Nat × Option Bool)) (o : Oper) (ρ : Env) (w : World) : Prop :=
  match pickKn kn o with
  | some x => N pend (addKn o.dst x kn) (ρ.put o.dst (ev ρ x)) w
  | none => match how P ρ o with
    | .mv v => N pend kn (ρ.put o.dst v) w
    | .pure s => xP P s fun v => N pend kn (ρ.put o.dst v) w
    | .read s => xR P s w fun v => N (bif dr then ⟨i, s, v⟩ :: pend else pend) kn (ρ.put o.dst v) w
    | .any s => xE P s w fun v w' => still P w' (beside (anc.getD i 0) pend) (N (beside (anc.getD i 0) pend) kn (ρ.put o.dst v) w')

theorem step_cases {P : Program} {ops : Array Oper} {dr : Bool} {anc : List Nat} {i : Nat} {N : List Pend → List (Nat × Option Bool) → Env → World → Prop} {pend : List Pend} {kn : List (Nat × Option Bool)} {ρ : Env} {w : World}
    (h : stepVC P ops dr anc i N pend kn ρ w) :
    ∃ o, ops[i]? = some o ∧ ∃ doIt kn', GuardSays ops o kn ρ doIt kn' ∧
      ((doIt = true ∧ goPart P dr anc i N pend kn' o ρ w) ∨
       (doIt = false ∧ N pend (skipKn o.dst kn') (ρ.put o.dst undef) w)) := by
  unfold stepVC at h
  cases ho : ops[i]? with
  | none => rw [ho] at h; exact h.elim
  | some o =>
    rw [ho] at h
    refine ⟨o, rfl, ?_⟩
    simp only at h
    unfold GuardSays
    cases hg : o.guard with
    | none =>
      rw [hg] at h
      exact ⟨true, kn, ⟨rfl, rfl⟩, .inl ⟨rfl, h⟩⟩
    | some gw =>
      obtain ⟨g, want⟩ := gw
      rw [hg] at h
      simp only at h ⊢
      cases hk : kget kn (slotOf ops g) with
      | none =>
        rw [hk] at h
        simp only at h
        rcases h with ⟨hv, h⟩ | ⟨hv, h⟩
        · refine ⟨want, (slotOf ops g, some true) :: kn, .inl ⟨true, .inr ⟨hv, rfl⟩, rfl⟩, ?_⟩
          cases want
          · exact .inr ⟨rfl, h⟩
          · exact .inl ⟨rfl, h⟩
        · refine ⟨!want, (slotOf ops g, some false) :: kn, .inl ⟨false, .inr ⟨hv, rfl⟩, rfl⟩, ?_⟩
          cases want
          · exact .inl ⟨rfl, h⟩
          · exact .inr ⟨rfl, h⟩
      | some ob =>
        rw [hk] at h
        cases ob with
        | none => exact ⟨false, kn, .inr ⟨rfl, rfl, rfl⟩, .inr ⟨rfl, h⟩⟩
        | some b =>
          simp only at h
          refine ⟨bif b then want else !want, kn, .inl ⟨b, .inl ⟨rfl, rfl⟩, rfl⟩, ?_⟩
          cases hd : (bif b then want else !want)
          · rw [hd] at h; exact .inr ⟨rfl, h⟩
          · rw [hd] at h; exact .inl ⟨rfl, h⟩

/-! ### Checks -/
def dsts (ops : Array Oper) : List (Option Nat) := ops.toList.map (·.dst)
def writesOps (ops : Array Oper) : List Nat := ops.toList.filterMap (·.dst)
def uniqL : List (Option Nat) → Bool
  | [] => true
  | none :: r => uniqL r
  | some t :: r => (r.all fun x => match x with | some u => !Nat.beq t u | none => true) && uniqL r
def boundL (n : Nat) : List (Option Nat) → Bool
  | [] => true
  | none :: r => boundL n r
  | some t :: r => Nat.blt t n && boundL n r

theorem uniqL_all {t : Nat} : ∀ {r : List (Option Nat)}, (r.all fun x => match x with | some u => !Nat.beq t u | none => true) = true → ∀ j : Nat, r[j]? ≠ some (some t) := by
  intro r h j hj
  have := List.all_eq_true.1 h (some t) (List.mem_of_getElem? hj)
  simp at this

theorem uniqL_spec : ∀ {l : List (Option Nat)}, uniqL l = true → ∀ i j t : Nat, l[i]? = some (some t) → l[j]? = some (some t) → i = j
  | [], _, i, j, t, h1, _ => by simp at h1
  | none :: r, h, i, j, t, h1, h2 => by
    cases i with
    | zero => simp at h1
    | succ i => cases j with
      | zero => simp at h2
      | succ j => exact congrArg _ (uniqL_spec (l := r) (by simpa [uniqL] using h) i j t (by simpa using h1) (by simpa using h2))
  | some u :: r, h, i, j, t, h1, h2 => by
    simp only [uniqL, Bool.and_eq_true] at h
    cases i with
    | zero =>
      simp at h1; subst h1
      cases j with
      | zero => rfl
      | succ j => exact absurd (by simpa using h2) (uniqL_all h.1 j)
    | succ i => cases j with
      | zero =>
        simp at h2; subst h2
        exact absurd (by simpa using h1) (uniqL_all h.1 i)
      | succ j => exact congrArg _ (uniqL_spec (l := r) h.2 i j t (by simpa using h1) (by simpa using h2))

theorem boundL_spec {n : Nat} : ∀ {l : List (Option Nat)}, boundL n l = true → ∀ i t : Nat, l[i]? = some (some t) → t < n
  | [], _, i, t, h1 => by simp at h1
  | none :: r, h, i, t, h1 => by
    cases i with
    | zero => simp at h1
    | succ i => exact boundL_spec (l := r) (by simpa [boundL] using h) i t (by simpa using h1)
  | some u :: r, h, i, t, h1 => by
    simp only [boundL, Bool.and_eq_true] at h
    cases i with
    | zero => simp at h1; subst h1; exact Nat.blt_eq ▸ h.1
    | succ i => exact boundL_spec (l := r) h.2 i t (by simpa using h1)

theorem dsts_get {ops : Array Oper} {i : Nat} {o : Oper} (h : ops[i]? = some o) : (dsts ops)[i]? = some o.dst := by
  simp [dsts, h]

theorem mem_writesOps {ops : Array Oper} {i : Nat} {o : Oper} {t : Nat} (h : ops[i]? = some o) (hd : o.dst = some t) : t ∈ writesOps ops := by
  unfold writesOps
  exact List.mem_filterMap.2 ⟨o, by simpa using List.mem_of_getElem? (by simpa using h : ops.toList[i]? = some o), hd⟩

/-- What is known of the guards' slots. -/
def KnOK (ops : Array Oper) (done : List Nat) (kn : List (Nat × Option Bool)) (ρ : Env) : Prop :=
  ∀ t ob, kget kn t = some ob → (∃ g o, g ∈ done ∧ ops[g]? = some o ∧ o.dst = some t) ∧ ρ t = (match ob with | some b => Value.bool b | none => undef)

/-- Each guard stands ahead of what it guards, and has a slot. -/
def guardsOK (ops : Array Oper) : List Nat → List Nat → Bool
  | _, [] => true
  | done, i :: rest => (match (ops[i]?).bind (·.guard) with
      | some (g, _) => (done.any fun k => Nat.beq k g) && ((ops[g]?).bind (·.dst)).isSome
      | none => true) && guardsOK ops (i :: done) rest

theorem Env.put_ne {ρ : Env} {d : Option Tmp} {v : Value} {t : Nat} (h : d ≠ some t) : ρ.put d v t = ρ t := by
  cases d with
  | none => rfl
  | some d =>
    simp only [Env.put]
    cases hb : Nat.beq t d with
    | false => rfl
    | true => exact absurd (congrArg some (Nat.eq_of_beq_eq_true hb).symm) h

theorem Env.put_eq {ρ : Env} {v : Value} {t : Nat} : ρ.put (some t) v t = v := by
  simp [Env.put]

theorem kget_cons {g g' : Nat} {b : Option Bool} {kn : List (Nat × Option Bool)} {ob : Option Bool} (h : kget ((g, b) :: kn) g' = some ob) : (g = g' ∧ b = ob) ∨ kget kn g' = some ob := by
  simp only [kget] at h
  cases hb : Nat.beq g g' with
  | true => rw [hb] at h; simp at h; exact .inl ⟨Nat.eq_of_beq_eq_true hb, h⟩
  | false => rw [hb] at h; exact .inr h

theorem KnOK.put {ops : Array Oper} {done : List Nat} {kn : List (Nat × Option Bool)} {ρ : Env} (h : KnOK ops done kn ρ) (hu : uniqL (dsts ops) = true) {i : Nat} {o : Oper} (ho : ops[i]? = some o) (hi : i ∉ done) (v : Value) :
    KnOK ops (i :: done) kn (ρ.put o.dst v) := by
  intro t ob hg
  obtain ⟨⟨g, o', h1, ho', hd'⟩, h2⟩ := h t ob hg
  refine ⟨⟨g, o', List.mem_cons_of_mem _ h1, ho', hd'⟩, ?_⟩
  rw [Env.put_ne (fun hd => hi (by
    have := uniqL_spec hu i g t (by rw [dsts_get ho, hd]) (by rw [dsts_get ho', hd'])
    exact this ▸ h1))]
  exact h2

theorem KnOK.cons {ops : Array Oper} {i : Nat} {done : List Nat} {kn : List (Nat × Option Bool)} {ρ : Env} (h : KnOK ops (i :: done) kn ρ) {o : Oper} (ho : ops[i]? = some o) {d : Tmp} (hd : o.dst = some d) {ob : Option Bool}
    (hv : ρ d = (match ob with | some b => Value.bool b | none => undef)) : KnOK ops (i :: done) ((d, ob) :: kn) ρ := by
  intro t ob' hg
  rcases kget_cons hg with ⟨rfl, rfl⟩ | hg
  · exact ⟨⟨i, o, List.mem_cons_self, ho, hd⟩, hv⟩
  · exact h t ob' hg

theorem KnOK.skip {ops : Array Oper} {i : Nat} {done : List Nat} {kn : List (Nat × Option Bool)} {ρ : Env} (h : KnOK ops (i :: done) kn ρ) {o : Oper} (ho : ops[i]? = some o) (hv : ∀ t, o.dst = some t → ρ t = undef) :
    KnOK ops (i :: done) (skipKn o.dst kn) ρ := by
  cases hd : o.dst with
  | none => exact h
  | some d => exact h.cons ho hd (hv d hd)

/-- A choice whose test is known: its value, and what is known behind it. -/
theorem pickKn_spec {ops : Array Oper} {done : List Nat} {kn : List (Nat × Option Bool)} {ρ : Env} (hk : KnOK ops done kn ρ) {o : Oper} {x : Operand} (h : pickKn kn o = some x) :
    execOp (ev ρ) o = Sem.pure (Next.value (ev ρ x)) := by
  unfold pickKn at h
  split at h
  · rename_i y hop
    cases h
    unfold execOp
    rw [hop]
    rfl
  · rename_i y hop
    cases h
    unfold execOp
    rw [hop]
    rfl
  · rename_i c a b hop
    split at h
    · rename_i t
      split at h
      · rename_i bc hg
        have hv := (hk t _ hg).2
        simp only [Option.some.injEq] at h
        unfold execOp
        rw [hop]
        have : ev ρ (.tmp t) = .bool bc := hv
        simp only [this]
        subst h
        cases bc <;> rfl
      · cases h
    · cases h
  · cases h

theorem KnOK.add {ops : Array Oper} {i : Nat} {done : List Nat} {kn : List (Nat × Option Bool)} {ρ : Env} (h : KnOK ops done kn ρ) (hu : uniqL (dsts ops) = true) {o : Oper} (ho : ops[i]? = some o) (hi : i ∉ done) (x : Operand) :
    KnOK ops (i :: done) (addKn o.dst x kn) (ρ.put o.dst (ev ρ x)) := by
  have hp := h.put hu ho hi (ev ρ x)
  unfold addKn
  cases hd : o.dst with
  | none => rw [hd] at hp; exact hp
  | some d =>
    rw [hd] at hp
    simp only
    split
    · rename_i v
      split
      · exact hp.cons ho hd (by rw [Env.put_eq]; rfl)
      · exact hp
    · rename_i t
      split
      · rename_i ob hg
        exact hp.cons ho hd (by rw [Env.put_eq]; exact (h t ob hg).2)
      · exact hp
    · exact hp

theorem yielded_of {n : Nat} {a : Act} {ρ : Env} (hr : Rep n a ρ) {ops : Array Oper} {g : Nat} {o : Oper} {t : Nat} (ho : ops[g]? = some o) (hd : o.dst = some t) (ht : t < n) :
    yielded ops a.tmps g = match ρ t with | .bool b => some b | _ => none := by
  have hsz := hr.2.1
  have hv := hr.2.2 t
  have h2 : a.tmps[t]? = some (ρ t) := by
    rw [← hv]
    simp [Array.getD, hsz, ht]
  unfold yielded
  rw [ho]
  simp only [Option.bind_some, hd]
  rw [h2]
  cases ρ t <;> rfl

/-- What the guard says is what the machine looks at. -/
theorem guard_wanted {ops : Array Oper} {done : List Nat} {kn kn' : List (Nat × Option Bool)} {ρ : Env} {i : Nat} {o : Oper} {doIt : Bool}
    (ho : ops[i]? = some o) (hk : KnOK ops done kn ρ) (hg : GuardSays ops o kn ρ doIt kn')
    (hgo : (match (ops[i]?).bind (·.guard) with
      | some (g, _) => (done.any fun k => Nat.beq k g) && ((ops[g]?).bind (·.dst)).isSome
      | none => true) = true) :
    KnOK ops done kn' ρ ∧
    (∀ n a ρ', Rep n a ρ' → boundL n (dsts ops) = true → (∀ g want o' t, o.guard = some (g, want) → ops[g]? = some o' → o'.dst = some t → ρ' t = ρ t) → Region.wanted o (yielded ops a.tmps) = doIt) := by
  unfold GuardSays at hg
  rw [ho] at hgo
  simp only [Option.bind_some] at hgo
  cases hgd : o.guard with
  | none =>
    rw [hgd] at hg
    obtain ⟨rfl, rfl⟩ := hg
    exact ⟨hk, fun n a ρ' _ _ _ => by simp [Region.wanted, hgd]⟩
  | some gw =>
    obtain ⟨g, want⟩ := gw
    rw [hgd] at hg hgo
    simp only [Bool.and_eq_true, Option.isSome_iff_exists] at hgo
    obtain ⟨hdone, t, ht⟩ := hgo
    have hgin : g ∈ done := by
      obtain ⟨k, hk1, hk2⟩ := List.any_eq_true.1 hdone
      exact Nat.eq_of_beq_eq_true hk2 ▸ hk1
    obtain ⟨o', ho', hd'⟩ : ∃ o', ops[g]? = some o' ∧ o'.dst = some t := by
      cases hx : ops[g]? with
      | none => rw [hx] at ht; simp at ht
      | some o' => rw [hx] at ht; exact ⟨o', rfl, by simpa using ht⟩
    have hslot : slotOf ops g = t := by unfold slotOf; rw [ht]
    have key : ∀ ob : Option Bool, ρ t = (match ob with | some b => Value.bool b | none => undef) → doIt = (match ob with | some b => (bif b then want else !want) | none => false) →
        (∀ n a ρ', Rep n a ρ' → boundL n (dsts ops) = true → ρ' t = ρ t → Region.wanted o (yielded ops a.tmps) = doIt) := by
      intro ob hv hd n a ρ' hr hb hag
      have hy := yielded_of hr ho' hd' (boundL_spec hb g t (by rw [dsts_get ho', hd']))
      rw [hag, hv] at hy
      unfold Region.wanted
      rw [hgd]
      simp only
      rw [hy, hd]
      cases ob with
      | none => simp [undef]
      | some b => cases b <;> cases want <;> rfl
    dsimp only at hg
    rw [hslot] at hg
    rcases hg with ⟨b, hb, hd⟩ | ⟨hkg, rfl, hd⟩
    · rcases hb with ⟨hkg, rfl⟩ | ⟨hv, rfl⟩
      · have hv := (hk t _ hkg).2
        exact ⟨hk, fun n a ρ' hr hb' hag => key (some b) hv hd n a ρ' hr hb' (hag g want o' t rfl ho' hd')⟩
      · refine ⟨?_, fun n a ρ' hr hb' hag => key (some b) hv hd n a ρ' hr hb' (hag g want o' t rfl ho' hd')⟩
        intro t' ob hg'
        rcases kget_cons hg' with ⟨rfl, rfl⟩ | hg'
        · exact ⟨⟨g, o', hgin, ho', hd'⟩, hv⟩
        · exact hk t' ob hg'
    · have hv := (hk t _ hkg).2
      exact ⟨hk, fun n a ρ' hr hb' hag => key none hv hd n a ρ' hr hb' (hag g want o' t rfl ho' hd')⟩

/-- The undrawn region. -/
theorem regVC_seq {P : Program} {ops : Array Oper} {anc : List Nat} {n : Nat} {K : Env → World → Prop} {Q : Exit → Act → World → Prop}
    (hu : uniqL (dsts ops) = true) (hb : boundL n (dsts ops) = true) (ρ0 : Env)
    (hQ : ∀ a ρ w, Rep n a ρ → K ρ w → (∀ t, t ∉ writesOps ops → ρ t = ρ0 t) → Q .normal a w) :
    ∀ (rest done : List Nat) (pend : List Pend) (kn : List (Nat × Option Bool)) (ρ : Env) (a : Act) (w : World),
      (∀ i ∈ rest, i ∉ done) → rest.Nodup → guardsOK ops done rest = true → KnOK ops done kn ρ → Rep n a ρ → (∀ t, t ∉ writesOps ops → ρ t = ρ0 t) →
      regVC P ops false anc K (planOf rest) pend kn ρ w → wpOps P ops Q rest a w := by
  intro rest
  induction rest with
  | nil => intro done pend kn ρ a w _ _ _ _ hr hw h; exact hQ a ρ w hr h hw
  | cons i rest ih =>
    intro done pend kn ρ a w hdis hnd hgs hk hr hw h
    obtain ⟨o, ho, doIt, kn', hg, hcase⟩ := step_cases h
    simp only [guardsOK, Bool.and_eq_true] at hgs
    obtain ⟨hk', hwant⟩ := guard_wanted ho hk hg hgs.1
    have hwd := hwant n a ρ hr hb (fun _ _ _ _ _ _ _ => rfl)
    have hi : i ∉ done := hdis i List.mem_cons_self
    have hnd' := List.nodup_cons.1 hnd
    have hdis' : ∀ j ∈ rest, j ∉ i :: done := by
      intro j hj hm
      rcases List.mem_cons.1 hm with rfl | hm
      · exact hnd'.1 hj
      · exact hdis j (List.mem_cons_of_mem _ hj) hm
    have hdn : ∀ t, o.dst = some t → t < n := fun t ht => boundL_spec hb i t (by rw [dsts_get ho, ht])
    have hwr : ∀ v t, t ∉ writesOps ops → (ρ.put o.dst v) t = ρ0 t := by
      intro v t ht
      rw [Env.put_ne (fun hd => ht (mem_writesOps ho hd))]
      exact hw t ht
    simp only [wpOps, ho, hwd]
    rcases hcase with ⟨rfl, hgo⟩ | ⟨rfl, hskip⟩
    · refine .inl ?_
      have step' : ∀ v w' pend' kn'', KnOK ops (i :: done) kn'' (ρ.put o.dst v) → regVC P ops false anc K (planOf rest) pend' kn'' (ρ.put o.dst v) w' → wpOps P ops Q rest (a.put o.dst v) w' := fun v w' pend' kn'' hkn h =>
        ih (i :: done) pend' kn'' _ _ _ hdis' hnd'.2 hgs.2 hkn (hr.put hdn v) (hwr v) h
      have step : ∀ v w' pend', regVC P ops false anc K (planOf rest) pend' kn' (ρ.put o.dst v) w' → wpOps P ops Q rest (a.put o.dst v) w' := fun v w' pend' h =>
        step' v w' pend' kn' (hk'.put hu ho hi v) h
      unfold goPart at hgo
      cases hpk : pickKn kn' o with
      | some x =>
        rw [hpk] at hgo
        unfold Oper.wp
        rw [hr.ev, pickKn_spec hk' hpk]
        exact step' _ _ _ _ (hk'.add hu ho hi x) hgo
      | none =>
      rw [hpk] at hgo
      simp only at hgo
      have hdo : doHow P (how P ρ o) w (fun v w' => wpOps P ops Q rest (a.put o.dst v) w') := by
        cases hh : how P ρ o with
        | mv v => rw [hh] at hgo; exact step v w _ hgo
        | pure s => rw [hh] at hgo; obtain ⟨v, h1, h2⟩ := hgo; exact ⟨v, h1, step v w _ h2⟩
        | read s => rw [hh] at hgo; obtain ⟨v, h1, h2⟩ := hgo; exact ⟨v, h1, step v w _ h2⟩
        | any s =>
          rw [hh] at hgo
          simp only [doHow, xE] at hgo ⊢
          have fin : ∀ (l : List Pend) (A : Prop) (w' : World), still P w' l A → A := by
            intro l
            induction l with
            | nil => exact fun A w' h => h
            | cons p l ih => exact fun A w' h => ih A w' h.2
          split at hgo <;> first
            | exact hgo.elim
            | exact step _ _ _ (fin _ _ _ hgo)
            | exact Calls.mono hgo (fun e w'' he => by cases e <;> first | exact step _ _ _ (fin _ _ _ he) | exact he.elim)
      exact Oper.wp_mono (fun a' w' ⟨v, hv, hx⟩ => hv ▸ hx) (doHow_sound hr hdo)
    · exact ih (i :: done) pend _ _ _ _ hdis' hnd'.2 hgs.2
        ((hk'.put hu ho hi undef).skip ho (fun t ht => by rw [ht]; exact Env.put_eq)) (hr.put hdn undef) (hwr undef) hskip

end Go.X

/-! XDraw -/
namespace Go.X
set_option linter.unusedSimpArgs false
set_option linter.unusedVariables false
open Go

/-! ## A region that draws its order -/
section
variable (P : Program) (ops : Array Oper) (anc : List Nat) (n : Nat) (K : Env → World → Prop) (Q : Exit → Act → World → Prop) (ρ0 : Env)

def A (i j : Nat) : Prop := bit (anc.getD i 0) j = true
def W (t i : Nat) : Prop := ∃ o, ops[i]? = some o ∧ o.dst = some t
def Wr (S : Nat → Prop) (t : Nat) : Prop := ∃ i, S i ∧ W ops t i
def isL (listed : Array Bool) (i : Nat) : Prop := listed.getD i false = true
def valAt (ρ : Env) : Option Tmp → Value
  | none => undef
  | some t => ρ t

def Rec (ρ : Env) (i : Nat) (w : World) : Prop :=
  ∀ o, ops[i]? = some o → ∀ a : Act, a.defers = [] → a.tmps.size = n →
    (∀ t ∈ o.looksAt ops, ((∃ k, A anc i k ∧ W ops t k) → a.tmps.getD t undef = ρ t) ∧ (¬ (∃ k, A anc i k ∧ W ops t k) → a.tmps.getD t undef = ρ0 t)) →
    ∀ Kt : Act → World → Prop, Kt (a.put o.dst (valAt ρ o.dst)) w → wpOp P ops Q i Kt a w

def isEff (i : Nat) : Bool := match ops[i]? with
  | some o => (match how P (fun _ => undef) o with | .any _ => true | _ => false)
  | none => true

def edgesIn (done : List Nat) (i : Nat) : Bool := match ops[i]? with
  | some o => o.after.toList.all fun e => !Region.binds .any e || done.any fun k => Nat.beq k e.on
  | none => false

def guardBack (done : List Nat) (i : Nat) : Bool := match (ops[i]?).bind (·.guard) with
  | some (g, _) => (done.any fun k => Nat.beq k g) && ((ops[g]?).bind (·.dst)).isSome
  | none => true

/-- 'ex': what may come up besides, and is met elsewhere. -/
def planOK : List Nat → List Nat → Plan → Bool
  | done, _, .nil => Nat.beq done.length ops.size
  | done, ex, .op i p => Nat.blt i ops.size && !(done.any fun k => Nat.beq k i) && edgesIn ops done i && guardBack ops done i &&
      (bif isEff P ops i then ((List.range ops.size).all fun j => Nat.beq j i || (done.any fun k => Nat.beq k j) || (ex.any fun k => Nat.beq k j) || !edgesIn ops done j) else ex.isEmpty) && planOK (i :: done) [] p
  | done, ex, .alt i p q => Nat.blt i ops.size && !(done.any fun k => Nat.beq k i) && edgesIn ops done i && guardBack ops done i && isEff P ops i && planOK (i :: done) [] p && planOK done (i :: ex) q

/-- The ancestors that are given come of the edges. -/
def ancOK (i : Nat) : Bool := match ops[i]? with
  | some o => Nat.beq (anc.getD i 0) (o.after.toList.foldl (fun s e => bif Region.binds .any e then Nat.lor (Nat.lor s (Nat.shiftLeft 1 e.on)) (anc.getD e.on 0) else s) 0) &&
      o.after.toList.all fun e => !Region.binds .any e || Nat.blt e.on i
  | none => Nat.beq (anc.getD i 0) 0

def slotsOK : Bool := (List.range ops.size).all fun j => match ops[j]? with
  | some o => (match o.op with | .select .. => false | _ => true) && (o.looksAt ops).all fun t => (List.range ops.size).all fun i => match ops[i]? with
      | some o' => (match o'.dst with | some u => !Nat.beq t u | none => true) || Nat.beq i j || bit (anc.getD j 0) i || bit (anc.getD i 0) j
      | none => true
  | none => false

def drawOK (plan : Plan) : Bool :=
  uniqL (dsts ops) && boundL n (dsts ops) && planOK P ops [] [] plan &&
  ((List.range ops.size).all (ancOK ops anc)) && Nat.ble anc.length ops.size && slotsOK ops anc
end

theorem bit_zero (j : Nat) : bit 0 j = false := by
  simp [bit]
  rfl
theorem bit_eq_testBit (m j : Nat) : bit m j = m.testBit j := by
  unfold bit Nat.testBit
  have h : Nat.land (Nat.shiftRight m j) 1 = (m >>> j) % 2 := Nat.and_one_is_mod (m >>> j)
  rw [h, Nat.one_and_eq_mod_two]
  have := Nat.mod_two_eq_zero_or_one (m >>> j)
  rcases this with h | h <;> rw [h] <;> rfl

theorem fold_bits {anc : List Nat} (j : Nat) : ∀ (l : List Edge) (s : Nat),
    (l.foldl (fun s e => bif Region.binds .any e then Nat.lor (Nat.lor s (Nat.shiftLeft 1 e.on)) (anc.getD e.on 0) else s) s).testBit j = true →
    s.testBit j = true ∨ ∃ e ∈ l, Region.binds .any e = true ∧ (e.on = j ∨ (anc.getD e.on 0).testBit j = true) := by
  intro l
  induction l with
  | nil => intro s h; exact .inl h
  | cons e l ih =>
    intro s h
    rcases ih _ h with h | ⟨e', he', h⟩
    · dsimp only at h
      cases hb : Region.binds .any e with
      | false => rw [hb] at h; exact .inl h
      | true =>
        rw [hb, cond_true] at h
        have h' : ((s ||| (1 <<< e.on)) ||| (anc.getD e.on 0)).testBit j = true := h
        rw [Nat.testBit_or, Nat.testBit_or, Bool.or_eq_true, Bool.or_eq_true] at h'
        rcases h' with (h' | h') | h'
        · exact .inl h'
        · refine .inr ⟨e, List.mem_cons_self, hb, .inl ?_⟩
          rw [Nat.testBit_shiftLeft] at h'
          simp only [Bool.and_eq_true, decide_eq_true_eq] at h'
          obtain ⟨h1, h2⟩ := h'
          have h3 : j - e.on = 0 := by
            rcases Nat.eq_zero_or_pos (j - e.on) with h | h
            · exact h
            · have : (1 : Nat).testBit (j - e.on) = false := by
                exact Nat.testBit_lt_two_pow (Nat.one_lt_two_pow (by omega))
              rw [this] at h2; cases h2
          omega
        · exact .inr ⟨e, List.mem_cons_self, hb, .inr h'⟩
    · exact .inr ⟨e', List.mem_cons_of_mem _ he', h⟩

theorem any_beq {l : List Nat} {i : Nat} : (l.any fun k => Nat.beq k i) = true ↔ i ∈ l := by
  simp only [List.any_eq_true]
  constructor
  · rintro ⟨k, hk, h⟩; exact Nat.eq_of_beq_eq_true h ▸ hk
  · intro h; exact ⟨i, h, by simp⟩

section
variable {P : Program} {ops : Array Oper} {anc : List Nat} {n : Nat} {K : Env → World → Prop} {Q : Exit → Act → World → Prop} {ρ0 : Env}

theorem anc_step (h1 : ((List.range ops.size).all (ancOK ops anc)) = true) (h2 : Nat.ble anc.length ops.size = true) {i j : Nat} (h : A anc i j) :
    ∃ o, ops[i]? = some o ∧ ∃ e ∈ o.after.toList, Region.binds .any e = true ∧ e.on < i ∧ (e.on = j ∨ A anc e.on j) := by
  have hlt : i < ops.size := by
    rcases Nat.lt_or_ge i ops.size with hlt | hge
    · exact hlt
    · have hz : anc.getD i 0 = 0 := by
        have := Nat.le_of_ble_eq_true h2
        simp [List.getD, List.getElem?_eq_none (show anc.length ≤ i by omega)]
      unfold A at h
      rw [hz, bit_zero] at h
      cases h
  have hi := List.all_eq_true.1 h1 i (List.mem_range.2 hlt)
  have ho : ops[i]? = some ops[i] := Array.getElem?_eq_getElem hlt
  refine ⟨ops[i], ho, ?_⟩
  unfold ancOK at hi
  rw [ho] at hi
  simp only [Bool.and_eq_true] at hi
  obtain ⟨hi1, hi2⟩ := hi
  unfold A at h
  rw [bit_eq_testBit, Nat.eq_of_beq_eq_true hi1] at h
  rcases fold_bits j _ _ h with h | ⟨e, he, hb, hj⟩
  · simp at h
  · have hlt' := List.all_eq_true.1 hi2 e he
    rw [hb] at hlt'
    refine ⟨e, he, hb, by simpa [Nat.blt_eq] using hlt', hj.imp id (fun h => ?_)⟩
    unfold A
    rw [bit_eq_testBit]; exact h

/-- Whatever is closed under the edges is closed under the ancestors. -/
theorem closed_of_edges (h1 : ((List.range ops.size).all (ancOK ops anc)) = true) (h2 : Nat.ble anc.length ops.size = true) {S : Nat → Prop}
    (hS : ∀ i o, S i → ops[i]? = some o → ∀ e ∈ o.after.toList, Region.binds .any e = true → S e.on) : ∀ (m i : Nat), i < m → S i → ∀ j, A anc i j → S j := by
  intro m
  induction m with
  | zero => intro i hi; omega
  | succ m ih =>
    intro i hi hs j hj
    obtain ⟨o, ho, e, he, hb, hlt, h⟩ := anc_step h1 h2 hj
    have hon := hS i o hs ho e he hb
    rcases h with rfl | h
    · exact hon
    · exact ih e.on (by omega) hon j h

/-- Where the walk stands: 'done' has been met in thought, 'listed' has been carried out. -/
structure Inv (P : Program) (ops : Array Oper) (anc : List Nat) (n : Nat) (K : Env → World → Prop) (Q : Exit → Act → World → Prop) (ρ0 : Env)
    (listed : Array Bool) (done : List Nat) (rest : Plan) (ex : List Nat) (pend : List Pend) (kn : List (Nat × Option Bool)) (ρ : Env) (a : Act) (w : World) : Prop where
  size : listed.size = ops.size
  df : a.defers = []
  sz : a.tmps.size = n
  acts : ∀ t, (Wr ops (isL listed) t → a.tmps.getD t undef = ρ t) ∧ (¬ Wr ops (isL listed) t → a.tmps.getD t undef = ρ0 t)
  rho : ∀ t, ¬ Wr ops (· ∈ done) t → ρ t = ρ0 t
  sub : ∀ i, isL listed i → i ∈ done
  closed : ∀ i, isL listed i → ∀ j, A anc i j → isL listed j
  dclosed : ∀ i, i ∈ done → ∀ j, A anc i j → j ∈ done
  recs : ∀ i, i ∈ done → ¬ isL listed i → Rec P ops anc n Q ρ0 ρ i w ∧
    ((∀ w', Rec P ops anc n Q ρ0 ρ i w') ∨ ∃ p ∈ pend, p.i = i ∧ ∀ w', p.s.run P w' = .ok (.value p.v) w' → Rec P ops anc n Q ρ0 ρ i w')
  knok : KnOK ops done kn ρ
  plan : planOK P ops done ex rest = true
  nd : done.Nodup
  lt : ∀ i ∈ done, i < ops.size
  vc : regVC P ops true anc K rest pend kn ρ w

structure Checks (ops : Array Oper) (anc : List Nat) (n : Nat) : Prop where
  hu : uniqL (dsts ops) = true
  hb : boundL n (dsts ops) = true
  h1 : ((List.range ops.size).all (ancOK ops anc)) = true
  h2 : Nat.ble anc.length ops.size = true
  h3 : slotsOK ops anc = true

theorem slots_spec (h : slotsOK ops anc = true) {j i : Nat} {o o' : Oper} {t : Nat} (hj : ops[j]? = some o) (hi : ops[i]? = some o') (ht : t ∈ o.looksAt ops) (hd : o'.dst = some t) :
    i = j ∨ A anc j i ∨ A anc i j := by
  have hjl : j < ops.size := (Array.getElem?_eq_some_iff.1 hj).1
  have hil : i < ops.size := (Array.getElem?_eq_some_iff.1 hi).1
  have := List.all_eq_true.1 h j (List.mem_range.2 hjl)
  rw [hj] at this
  simp only [Bool.and_eq_true] at this
  have := List.all_eq_true.1 this.2 t ht
  have := List.all_eq_true.1 this i (List.mem_range.2 hil)
  rw [hi] at this
  simp only [hd] at this
  simp only [Nat.beq_refl, Bool.not_true, Bool.false_or, Bool.or_eq_true] at this
  rcases this with (h | h) | h
  · exact .inl (Nat.eq_of_beq_eq_true h)
  · exact .inr (.inl h)
  · exact .inr (.inr h)

theorem slots_nosel (h : slotsOK ops anc = true) {j : Nat} {o : Oper} (hj : ops[j]? = some o) : ∀ cs b, o.op ≠ .select cs b := by
  intro cs b hs
  have hjl : j < ops.size := (Array.getElem?_eq_some_iff.1 hj).1
  have := List.all_eq_true.1 h j (List.mem_range.2 hjl)
  rw [hj] at this
  simp [hs] at this

theorem W.uniq (hu : uniqL (dsts ops) = true) {t i j : Nat} (h : W ops t i) (h' : W ops t j) : i = j := by
  obtain ⟨o, ho, hd⟩ := h
  obtain ⟨o', ho', hd'⟩ := h'
  exact uniqL_spec hu i j t (by rw [dsts_get ho, hd]) (by rw [dsts_get ho', hd'])

theorem isL_set {listed : Array Bool} {i k : Nat} (hi : i < listed.size) : isL (listed.setIfInBounds i true) k ↔ k = i ∨ isL listed k := by
  unfold isL
  by_cases h : k = i
  · subst h; simp [Array.getD, hi]
  · simp only [Array.getD_eq_getD_getElem?]
    rw [Array.getElem?_setIfInBounds_ne (Ne.symm h)]
    simp [h]

/-- The environment may turn at a slot that nobody of the ones in question writes. -/
theorem Rec.congr {ρ ρ' : Env} {i : Nat} {w : World} (h : Rec P ops anc n Q ρ0 ρ i w) (hd : ∀ o t, ops[i]? = some o → o.dst = some t → ρ' t = ρ t) (ha : ∀ k t, A anc i k → W ops t k → ρ' t = ρ t) :
    Rec P ops anc n Q ρ0 ρ' i w := by
  intro o ho a hdf hsz hag Kt hK
  refine h o ho a hdf hsz (fun t ht => ⟨fun ⟨k, hk, hw⟩ => ((hag t ht).1 ⟨k, hk, hw⟩).trans (ha k t hk hw), (hag t ht).2⟩) Kt ?_
  have : valAt ρ o.dst = valAt ρ' o.dst := by
    cases hdst : o.dst with
    | none => rfl
    | some t => exact (hd o t ho hdst).symm
  rw [this]; exact hK

theorem mem_looks_operand {o : Oper} {t : Nat} (h : Operand.tmp t ∈ o.op.operands) : t ∈ o.looksAt ops := by
  unfold Oper.looksAt
  refine List.mem_append.2 (.inl (List.mem_filterMap.2 ⟨.tmp t, by simpa using h, rfl⟩))

theorem mem_looks_guard {o o' : Oper} {t g : Nat} {b : Bool} (h : o.guard = some (g, b)) (hg : ops[g]? = some o') (hd : o'.dst = some t) : t ∈ o.looksAt ops := by
  unfold Oper.looksAt
  refine List.mem_append.2 (.inr ?_)
  rw [h]
  simp [hg, hd]

/-- The values that an operation looks at are those of the environment in which it was met. -/
theorem exec_eq {o : Oper} (hns : ∀ cs b, o.op ≠ .select cs b) {a : Act} {ρ : Env} (h : ∀ t ∈ o.looksAt ops, a.tmps.getD t undef = ρ t) : execOp a.eval o = execOp (ev ρ) o := by
  refine execOp_congr o hns (fun x hx => ?_)
  cases x with
  | tmp t => exact h t (mem_looks_operand hx)
  | _ => rfl

/-- What is known of 'i' as it is met, and of whatever act bears the values that it looks at. -/
theorem looks_meet (C : Checks ops anc n) {done : List Nat} {ρ : Env} (hrho : ∀ t, ¬ Wr ops (· ∈ done) t → ρ t = ρ0 t) (hdc : ∀ i, i ∈ done → ∀ j, A anc i j → j ∈ done)
    {i : Nat} {o : Oper} (ho : ops[i]? = some o) (hi : i ∉ done) (hanc : ∀ j, A anc i j → j ∈ done) {ρ' : Env} (hρ' : ∀ t, o.dst ≠ some t → ρ' t = ρ t) {a : Act}
    (hag : ∀ t ∈ o.looksAt ops, ((∃ k, A anc i k ∧ W ops t k) → a.tmps.getD t undef = ρ' t) ∧ (¬ (∃ k, A anc i k ∧ W ops t k) → a.tmps.getD t undef = ρ0 t)) :
    ∀ t ∈ o.looksAt ops, a.tmps.getD t undef = ρ t := by
  intro t ht
  by_cases hk : ∃ k, A anc i k ∧ W ops t k
  · rw [(hag t ht).1 hk]
    obtain ⟨k, hk, hw⟩ := hk
    refine hρ' t (fun hd => ?_)
    have := W.uniq C.hu hw ⟨o, ho, hd⟩
    subst this
    exact hi (hanc _ hk)
  · rw [(hag t ht).2 hk]
    refine (hrho t (fun ⟨k, hkd, hw⟩ => ?_)).symm
    obtain ⟨o', ho', hd'⟩ := hw
    rcases slots_spec C.h3 ho ho' ht hd' with rfl | h | h
    · exact hi hkd
    · exact hk ⟨k, h, o', ho', hd'⟩
    · exact hi (hdc k hkd i h)

/-- An operation that is met and leaves the world alone is recorded. -/
theorem rec_of_value (C : Checks ops anc n) {done : List Nat} {ρ : Env} (hrho : ∀ t, ¬ Wr ops (· ∈ done) t → ρ t = ρ0 t) (hdc : ∀ i, i ∈ done → ∀ j, A anc i j → j ∈ done)
    {i : Nat} {o : Oper} (ho : ops[i]? = some o) (hi : i ∉ done) (hanc : ∀ j, A anc i j → j ∈ done) {doIt : Bool} {kn' : List (Nat × Option Bool)} {kn : List (Nat × Option Bool)}
    (hgw : ∀ n a ρ', Rep n a ρ' → boundL n (dsts ops) = true → (∀ g want o' t, o.guard = some (g, want) → ops[g]? = some o' → o'.dst = some t → ρ' t = ρ t) → Region.wanted o (yielded ops a.tmps) = doIt)
    (_hg : GuardSays ops o kn ρ doIt kn') {v : Value} {w : World}
    (hv : (doIt = true ∧ (execOp (ev ρ) o).run P w = .ok (.value v) w) ∨ (doIt = false ∧ v = undef)) : Rec P ops anc n Q ρ0 (ρ.put o.dst v) i w := by
  intro o1 ho1 a hdf hsz hag Kt hK
  rw [ho] at ho1; cases ho1
  have hl := looks_meet C hrho hdc ho hi hanc (ρ' := ρ.put o.dst v) (fun t ht => Env.put_ne ht) hag
  have hrep : Rep n a (fun t => a.tmps.getD t undef) := ⟨hdf, hsz, fun _ => rfl⟩
  have hwd := hgw n a _ hrep C.hb (fun g want o' t hgd ho' hd' => hl t (mem_looks_guard hgd ho' hd'))
  have hval : a.put o.dst (valAt (ρ.put o.dst v) o.dst) = a.put o.dst v := by
    cases hd : o.dst with
    | none => rfl
    | some t => simp only [valAt, Env.put_eq]
  rw [hval] at hK
  unfold wpOp
  rw [ho]
  simp only [hwd]
  rcases hv with ⟨rfl, hrun⟩ | ⟨rfl, rfl⟩
  · refine .inl ?_
    unfold Oper.wp
    rw [exec_eq (slots_nosel C.h3 ho) hl, hrun]
    exact hK
  · exact hK

theorem edgesIn_spec {done : List Nat} {i : Nat} (h : edgesIn ops done i = true) : ∃ o, ops[i]? = some o ∧ ∀ e ∈ o.after.toList, Region.binds .any e = true → e.on ∈ done := by
  unfold edgesIn at h
  cases ho : ops[i]? with
  | none => rw [ho] at h; cases h
  | some o =>
    rw [ho] at h
    refine ⟨o, rfl, fun e he hb => ?_⟩
    have := List.all_eq_true.1 h e he
    rw [hb] at this
    exact any_beq.1 (by simpa using this)

theorem edges_anc (C : Checks ops anc n) {done : List Nat} (hdc : ∀ i, i ∈ done → ∀ j, A anc i j → j ∈ done) {i : Nat} (h : edgesIn ops done i = true) : ∀ j, A anc i j → j ∈ done := by
  intro j hj
  obtain ⟨o, ho, he⟩ := edgesIn_spec h
  obtain ⟨o', ho', e, hee, hb, _, hjj⟩ := anc_step C.h1 C.h2 hj
  rw [ho] at ho'; cases ho'
  have hon := he e hee hb
  rcases hjj with rfl | hjj
  · exact hon
  · exact hdc _ hon j hjj

/-- The head is met, and left for later: nothing is carried out. -/
theorem Inv.meet (C : Checks ops anc n) {listed : Array Bool} {done : List Nat} {rest : Plan} {ex : List Nat} {pend : List Pend} {kn : List (Nat × Option Bool)} {ρ : Env} {a : Act} {w : World} {i : Nat}
    (I : Inv P ops anc n K Q ρ0 listed done (.op i rest) ex pend kn ρ a w) :
    (∃ pend' kn' ρ', Inv P ops anc n K Q ρ0 listed (i :: done) rest [] pend' kn' ρ' a w) ∨
    (∃ o s kn', ops[i]? = some o ∧ isEff P ops i = true ∧ how P ρ o = .any s ∧ KnOK ops done kn' ρ ∧
      (∀ n a ρ', Rep n a ρ' → boundL n (dsts ops) = true → (∀ g want o' t, o.guard = some (g, want) → ops[g]? = some o' → o'.dst = some t → ρ' t = ρ t) → Region.wanted o (yielded ops a.tmps) = true) ∧
      xE P s w fun v w' => still P w' (beside (anc.getD i 0) pend) (regVC P ops true anc K rest (beside (anc.getD i 0) pend) kn' (ρ.put o.dst v) w')) := by
  obtain ⟨o, ho, doIt, kn', hg, hcase⟩ := step_cases I.vc
  have hpl := I.plan
  simp only [planOK, Bool.and_eq_true, Bool.not_eq_true'] at hpl
  obtain ⟨⟨⟨⟨⟨hlt, hnot⟩, hedge⟩, hgs⟩, heff⟩, hplan⟩ := hpl
  obtain ⟨hk', hgw⟩ := guard_wanted ho I.knok hg hgs
  have hi : i ∉ done := fun h => by rw [any_beq.2 h] at hnot; cases hnot
  have hanc := edges_anc C I.dclosed hedge
  have hlt' : i < ops.size := by simpa [Nat.blt_eq] using hlt
  -- the common part
  have mk : ∀ (v : Value) (pend' : List Pend) (kn'' : List (Nat × Option Bool)),
      (∀ p ∈ pend, p ∈ pend') →
      Rec P ops anc n Q ρ0 (ρ.put o.dst v) i w →
      ((∀ w', Rec P ops anc n Q ρ0 (ρ.put o.dst v) i w') ∨ ∃ p ∈ pend', p.i = i ∧ ∀ w', p.s.run P w' = .ok (.value p.v) w' → Rec P ops anc n Q ρ0 (ρ.put o.dst v) i w') →
      KnOK ops (i :: done) kn'' (ρ.put o.dst v) →
      regVC P ops true anc K rest pend' kn'' (ρ.put o.dst v) w →
      Inv P ops anc n K Q ρ0 listed (i :: done) rest [] pend' kn'' (ρ.put o.dst v) a w := by
    intro v pend' kn'' hpp hrec hrec' hkn hvc
    have hρt : ∀ k t, k ∈ done → W ops t k → (ρ.put o.dst v) t = ρ t := by
      intro k t hkd hw
      refine Env.put_ne (fun hd => ?_)
      have := W.uniq C.hu hw ⟨o, ho, hd⟩
      exact hi (this ▸ hkd)
    have keep : ∀ k ∈ done, ∀ w', Rec P ops anc n Q ρ0 ρ k w' → Rec P ops anc n Q ρ0 (ρ.put o.dst v) k w' := by
      intro k hkd w' h
      exact h.congr (fun o' t ho' hd' => hρt k t hkd ⟨o', ho', hd'⟩) (fun k' t hk' hw' => hρt k' t (I.dclosed k hkd k' hk') hw')
    exact {
      size := I.size, df := I.df, sz := I.sz
      acts := fun t => ⟨fun hw => by
          obtain ⟨k, hk, hw'⟩ := hw
          rw [(I.acts t).1 ⟨k, hk, hw'⟩]
          exact (hρt k t (I.sub k hk) hw').symm, (I.acts t).2⟩
      rho := fun t hn => by
        rw [Env.put_ne (fun hd => hn ⟨i, List.mem_cons_self, o, ho, hd⟩)]
        exact I.rho t (fun ⟨k, hk, hw⟩ => hn ⟨k, List.mem_cons_of_mem _ hk, hw⟩)
      sub := fun k hk => List.mem_cons_of_mem _ (I.sub k hk)
      closed := I.closed
      dclosed := fun k hk j hj => by
        rcases List.mem_cons.1 hk with rfl | hk
        · exact List.mem_cons_of_mem _ (hanc j hj)
        · exact List.mem_cons_of_mem _ (I.dclosed k hk j hj)
      recs := fun k hk hnl => by
        rcases List.mem_cons.1 hk with rfl | hk
        · exact ⟨hrec, hrec'⟩
        · obtain ⟨r1, r2⟩ := I.recs k hk hnl
          refine ⟨keep k hk w r1, r2.imp (fun h w' => keep k hk w' (h w')) (fun ⟨p, hp, hpi, h⟩ => ⟨p, hpp p hp, hpi, fun w' hr => keep k hk w' (h w' hr)⟩)⟩
      knok := hkn
      plan := hplan
      nd := List.nodup_cons.2 ⟨hi, I.nd⟩
      lt := fun k hk => by
        rcases List.mem_cons.1 hk with rfl | hk
        · exact hlt'
        · exact I.lt k hk
      vc := hvc }
  have recv : ∀ (v : Value) (w' : World), ((doIt = true ∧ (execOp (ev ρ) o).run P w' = .ok (.value v) w') ∨ (doIt = false ∧ v = undef)) → Rec P ops anc n Q ρ0 (ρ.put o.dst v) i w' :=
    fun v w' hv => rec_of_value C I.rho I.dclosed ho hi hanc hgw hg hv
  rcases hcase with ⟨rfl, hgo⟩ | ⟨rfl, hskip⟩
  · unfold goPart at hgo
    cases hpk : pickKn kn' o with
    | some x =>
      rw [hpk] at hgo
      have r : ∀ w', Rec P ops anc n Q ρ0 (ρ.put o.dst (ev ρ x)) i w' := fun w' => recv _ w' (.inl ⟨rfl, by rw [pickKn_spec hk' hpk]; rfl⟩)
      exact .inl ⟨_, _, _, mk (ev ρ x) pend (addKn o.dst x kn') (fun _ h => h) (r w) (.inl r) (hk'.add C.hu ho hi x) hgo⟩
    | none =>
    rw [hpk] at hgo
    simp only at hgo
    have hs := how_spec P ρ o
    cases hh : how P ρ o with
    | mv v =>
      rw [hh] at hgo hs
      simp only [How.is] at hs
      have r : ∀ w', Rec P ops anc n Q ρ0 (ρ.put o.dst v) i w' := fun w' => recv v w' (.inl ⟨rfl, by rw [hs]; rfl⟩)
      exact .inl ⟨_, _, _, mk v pend kn' (fun _ h => h) (r w) (.inl r) (hk'.put C.hu ho hi v) hgo⟩
    | pure s =>
      rw [hh] at hgo hs
      simp only [How.is] at hs
      obtain ⟨v, h1, h2⟩ := hgo
      have r : ∀ w', Rec P ops anc n Q ρ0 (ρ.put o.dst v) i w' := fun w' => recv v w' (.inl ⟨rfl, by rw [hs]; exact h1 w'⟩)
      exact .inl ⟨_, _, _, mk v pend kn' (fun _ h => h) (r w) (.inl r) (hk'.put C.hu ho hi v) h2⟩
    | read s =>
      rw [hh] at hgo hs
      simp only [How.is] at hs
      obtain ⟨v, h1, h2⟩ := hgo
      have r : ∀ w', s.run P w' = .ok (.value v) w' → Rec P ops anc n Q ρ0 (ρ.put o.dst v) i w' := fun w' h => recv v w' (.inl ⟨rfl, by rw [hs]; exact h⟩)
      exact .inl ⟨_, _, _, mk v (⟨i, s, v⟩ :: pend) kn' (fun _ h => List.mem_cons_of_mem _ h) (r w h1) (.inr ⟨⟨i, s, v⟩, List.mem_cons_self, rfl, r⟩) (hk'.put C.hu ho hi v) h2⟩
    | any s =>
      rw [hh] at hgo
      have he : isEff P ops i = true := by
        unfold isEff
        rw [ho]
        have : ∀ ρ', (match how P ρ' o with | .any _ => true | _ => false) = (match how P ρ o with | .any _ => true | _ => false) := by
          intro ρ'
          obtain ⟨dst, op, type, pos, after, guard⟩ := o
          cases op <;> try rfl
          case binOp b t x y yt => cases b <;> rfl
          case convert s d x => simp only [how]; cases isInt P s && isInt P d <;> rfl
          case call c =>
            obtain ⟨callee, args, ats⟩ := c
            cases callee with
            | value f => cases f <;> rfl
            | invoke r m => rfl
            | builtin b => cases b <;> first | rfl | (simp only [how]; cases isMap P (ats.getD 0 0) <;> rfl)
        simp only [this, hh]
      exact .inr ⟨o, s, kn', ho, he, hh, hk', hgw, hgo⟩
  · have r : ∀ w', Rec P ops anc n Q ρ0 (ρ.put o.dst undef) i w' := fun w' => recv undef w' (.inr ⟨rfl, rfl⟩)
    exact .inl ⟨_, _, _, mk undef pend (skipKn o.dst kn') (fun _ h => h) (r w) (.inl r) ((hk'.put C.hu ho hi undef).skip ho (fun t ht => by rw [ht]; exact Env.put_eq)) hskip⟩

theorem isL_mono {listed : Array Bool} {i k : Nat} (hk : isL listed k) : isL (listed.setIfInBounds i true) k := by
  unfold isL at *
  by_cases h : k = i
  · subst h
    have : k < listed.size := by
      rcases Nat.lt_or_ge k listed.size with h | h
      · exact h
      · simp [Array.getD, Nat.not_lt.2 h] at hk
    simp [Array.getD, this]
  · simp only [Array.getD_eq_getD_getElem?]
    rw [Array.getElem?_setIfInBounds_ne (Ne.symm h)]
    simpa using hk

theorem nodup_full {l : List Nat} {m : Nat} (hn : l.Nodup) (hb : ∀ k ∈ l, k < m) (hl : l.length = m) : ∀ k, k < m → k ∈ l := by
  intro k hk
  refine Classical.byContradiction (fun hc => ?_)
  have h1 : (k :: l).Nodup := List.nodup_cons.2 ⟨hc, hn⟩
  have h2 : (k :: l).length ≤ (List.range m).length := List.Nodup.length_le_of_subset h1 (fun x hx => by
    rcases List.mem_cons.1 hx with rfl | hx
    · exact List.mem_range.2 hk
    · exact List.mem_range.2 (hb x hx))
  simp at h2
  omega

theorem count_lt {listed : Array Bool} {i m : Nat} (hi : i < m) (hs : i < listed.size) (hl : listed.getD i false = false) :
    ((List.range m).filter fun k => !(listed.setIfInBounds i true).getD k false).length < ((List.range m).filter fun k => !listed.getD k false).length := by
  have e : ((List.range m).filter fun k => !(listed.setIfInBounds i true).getD k false) = (((List.range m).filter fun k => !listed.getD k false).filter fun k => !(listed.setIfInBounds i true).getD k false) := by
    rw [List.filter_filter]
    refine List.filter_congr (fun k _ => ?_)
    cases hb : listed.getD k false with
    | false => simp
    | true =>
      have : isL (listed.setIfInBounds i true) k := isL_mono hb
      unfold isL at this
      simp [this]
  rw [e]
  refine List.length_filter_lt_length_iff_exists.2 ⟨i, List.mem_filter.2 ⟨List.mem_range.2 hi, by simp only [hl, Bool.not_false]⟩, ?_⟩
  have : isL (listed.setIfInBounds i true) i := (isL_set hs).2 (.inl rfl)
  unfold isL at this
  simp [this]

/-- The values in the slots, behind one more operation. -/
theorem acts_step (C : Checks ops anc n) {listed : Array Bool} {i : Nat} {o : Oper} (ho : ops[i]? = some o) (hil : i < listed.size) (hnl : ¬ isL listed i) {ρ : Env} {a : Act} (hsz : a.tmps.size = n)
    (h : ∀ t, (Wr ops (isL listed) t → a.tmps.getD t undef = ρ t) ∧ (¬ Wr ops (isL listed) t → a.tmps.getD t undef = ρ0 t)) :
    ∀ t, (Wr ops (isL (listed.setIfInBounds i true)) t → (a.put o.dst (valAt ρ o.dst)).tmps.getD t undef = ρ t) ∧
      (¬ Wr ops (isL (listed.setIfInBounds i true)) t → (a.put o.dst (valAt ρ o.dst)).tmps.getD t undef = ρ0 t) := by
  intro t
  by_cases hd : o.dst = some t
  · have htn : t < n := boundL_spec C.hb i t (by rw [dsts_get ho, hd])
    have : (a.put o.dst (valAt ρ o.dst)).tmps.getD t undef = ρ t := by
      rw [hd]
      simp [Act.put, valAt, Array.getD, hsz, htn]
    exact ⟨fun _ => this, fun hn => absurd ⟨i, (isL_set hil).2 (.inl rfl), o, ho, hd⟩ hn⟩
  · have hput : (a.put o.dst (valAt ρ o.dst)).tmps.getD t undef = a.tmps.getD t undef := by
      cases hdo : o.dst with
      | none => rfl
      | some d =>
        have : d ≠ t := fun e => hd (by rw [hdo, e])
        simp only [Act.put, Array.getD_eq_getD_getElem?]
        rw [Array.getElem?_setIfInBounds_ne this]
    rw [hput]
    refine ⟨fun ⟨k, hk, hw⟩ => (h t).1 ⟨k, ?_, hw⟩, fun hn => (h t).2 (fun ⟨k, hk, hw⟩ => hn ⟨k, isL_mono hk, hw⟩)⟩
    rcases (isL_set hil).1 hk with rfl | hk
    · obtain ⟨o', ho', hd'⟩ := hw
      rw [ho] at ho'; cases ho'
      exact absurd hd' hd
    · exact hk

/-- What was met earlier is carried out now. -/
theorem Inv.carry (C : Checks ops anc n) {listed : Array Bool} {done : List Nat} {rest : Plan} {pend : List Pend} {kn : List (Nat × Option Bool)} {ρ : Env} {a : Act} {w : World} {i : Nat}
    (I : Inv P ops anc n K Q ρ0 listed done rest [] pend kn ρ a w) (hid : i ∈ done) (hnl : ¬ isL listed i) (hanc : ∀ j, A anc i j → isL listed j)
    {Kt : Act → World → Prop} (hK : ∀ a', (∃ done rest pend kn ρ, Inv P ops anc n K Q ρ0 (listed.setIfInBounds i true) done rest [] pend kn ρ a' w) → Kt a' w) : wpOp P ops Q i Kt a w := by
  have hlt := I.lt i hid
  have ho : ops[i]? = some ops[i] := Array.getElem?_eq_getElem hlt
  have hil : i < listed.size := I.size ▸ hlt
  refine (I.recs i hid hnl).1 _ ho a I.df I.sz (fun t ht => ⟨fun ⟨k, hk, hw⟩ => (I.acts t).1 ⟨k, hanc k hk, hw⟩, fun hn => (I.acts t).2 (fun ⟨k, hk, hw⟩ => ?_)⟩) Kt (hK _ ⟨done, rest, pend, kn, ρ, ?_⟩)
  · obtain ⟨o', ho', hd'⟩ := hw
    rcases slots_spec C.h3 ho ho' ht hd' with rfl | h | h
    · exact hnl hk
    · exact hn ⟨k, h, o', ho', hd'⟩
    · exact hnl (I.closed k hk i h)
  · exact {
      size := by simp [I.size], df := by cases ops[i].dst <;> exact I.df, sz := by cases h : ops[i].dst <;> simp [Act.put, I.sz]
      acts := acts_step C ho hil hnl I.sz I.acts
      rho := I.rho
      sub := fun k hk => by
        rcases (isL_set hil).1 hk with rfl | hk
        · exact hid
        · exact I.sub k hk
      closed := fun k hk j hj => by
        rcases (isL_set hil).1 hk with rfl | hk
        · exact isL_mono (hanc j hj)
        · exact isL_mono (I.closed k hk j hj)
      dclosed := I.dclosed
      recs := fun k hk hn => I.recs k hk (fun h => hn (isL_mono h))
      knok := I.knok, plan := I.plan, nd := I.nd, lt := I.lt, vc := I.vc }

theorem still_spec {w : World} : ∀ {l : List Pend} {B : Prop}, still P w l B → (∀ p ∈ l, p.s.run P w = .ok (.value p.v) w) ∧ B
  | [], _, h => ⟨fun _ hp => (by cases hp), h⟩
  | p :: l, B, h => by
    obtain ⟨h1, h2⟩ := still_spec (l := l) h.2
    exact ⟨fun q hq => by
      rcases List.mem_cons.1 hq with rfl | hq
      · exact h.1
      · exact h1 q hq, h2⟩

theorem mem_beside {m : Nat} {p : Pend} : ∀ {l : List Pend}, p ∈ l → bit m p.i = false → p ∈ beside m l
  | q :: l, h, hb => by
    simp only [beside]
    rcases List.mem_cons.1 h with rfl | h
    · rw [hb]; exact List.mem_cons_self
    · cases bit m q.i
      · exact List.mem_cons_of_mem _ (mem_beside h hb)
      · exact mem_beside h hb

/-- The head is met and carried out at once. -/
theorem Inv.effect (C : Checks ops anc n) {listed : Array Bool} {done : List Nat} {rest whole : Plan} {ex : List Nat} {pend : List Pend} {kn kn' : List (Nat × Option Bool)} {ρ : Env} {a : Act} {w : World} {i : Nat}
    (I : Inv P ops anc n K Q ρ0 listed done whole ex pend kn ρ a w) (hlt' : i < ops.size) (hi : i ∉ done) (hedge : edgesIn ops done i = true) (hplan : planOK P ops (i :: done) [] rest = true)
    (hanc : ∀ j, A anc i j → isL listed j) {o : Oper} {s : Sem Next} (ho : ops[i]? = some o) (hh : how P ρ o = .any s)
    (hk' : KnOK ops done kn' ρ)
    (hgw : ∀ n a ρ', Rep n a ρ' → boundL n (dsts ops) = true → (∀ g want o' t, o.guard = some (g, want) → ops[g]? = some o' → o'.dst = some t → ρ' t = ρ t) → Region.wanted o (yielded ops a.tmps) = true)
    (hE : xE P s w fun v w' => still P w' (beside (anc.getD i 0) pend) (regVC P ops true anc K rest (beside (anc.getD i 0) pend) kn' (ρ.put o.dst v) w')) :
    wpOp P ops Q i (fun a' w' => ∃ done rest pend kn ρ, Inv P ops anc n K Q ρ0 (listed.setIfInBounds i true) done rest [] pend kn ρ a' w') a w := by
  have hnl : ¬ isL listed i := fun h => hi (I.sub i h)
  have hancd := edges_anc C I.dclosed hedge
  have hil : i < listed.size := I.size ▸ hlt'
  have hl : ∀ t ∈ o.looksAt ops, a.tmps.getD t undef = ρ t := by
    refine looks_meet C I.rho I.dclosed ho hi hancd (ρ' := ρ) (fun _ _ => rfl) (fun t ht => ⟨fun ⟨k, hk, hw⟩ => (I.acts t).1 ⟨k, hanc k hk, hw⟩, fun hn => (I.acts t).2 (fun ⟨k, hk, hw⟩ => ?_)⟩)
    obtain ⟨o', ho', hd'⟩ := hw
    rcases slots_spec C.h3 ho ho' ht hd' with rfl | h | h
    · exact hnl hk
    · exact hn ⟨k, h, o', ho', hd'⟩
    · exact hnl (I.closed k hk i h)
  have hrep : Rep n a (fun t => a.tmps.getD t undef) := ⟨I.df, I.sz, fun _ => rfl⟩
  have hwd := hgw n a _ hrep C.hb (fun g want o' t hgd ho' hd' => hl t (mem_looks_guard hgd ho' hd'))
  have hs := how_spec P ρ o
  rw [hh] at hs
  simp only [How.is] at hs
  have fin : ∀ v w', (still P w' (beside (anc.getD i 0) pend) (regVC P ops true anc K rest (beside (anc.getD i 0) pend) kn' (ρ.put o.dst v) w')) →
      ∃ done rest pend kn ρ, Inv P ops anc n K Q ρ0 (listed.setIfInBounds i true) done rest [] pend kn ρ (a.put o.dst v) w' := by
    intro v w' hst
    obtain ⟨hall, hvc⟩ := still_spec hst
    have hρt : ∀ k t, k ∈ done → W ops t k → (ρ.put o.dst v) t = ρ t := by
      intro k t hkd hw
      refine Env.put_ne (fun hd => ?_)
      have := W.uniq C.hu hw ⟨o, ho, hd⟩
      exact hi (this ▸ hkd)
    have keep : ∀ k ∈ done, ∀ w', Rec P ops anc n Q ρ0 ρ k w' → Rec P ops anc n Q ρ0 (ρ.put o.dst v) k w' := by
      intro k hkd w' h
      exact h.congr (fun o' t ho' hd' => hρt k t hkd ⟨o', ho', hd'⟩) (fun k' t hk' hw' => hρt k' t (I.dclosed k hkd k' hk') hw')
    have hval : a.put o.dst v = a.put o.dst (valAt (ρ.put o.dst v) o.dst) := by
      cases hd : o.dst with
      | none => rfl
      | some t => simp only [valAt, Env.put_eq]
    refine ⟨i :: done, rest, beside (anc.getD i 0) pend, kn', ρ.put o.dst v, ?_⟩
    rw [hval]
    exact {
      size := by simp [I.size], df := by cases o.dst <;> exact I.df, sz := by cases h : o.dst <;> simp [Act.put, I.sz]
      acts := acts_step C ho hil hnl I.sz (fun t => ⟨fun ⟨k, hk, hw⟩ => ((I.acts t).1 ⟨k, hk, hw⟩).trans (hρt k t (I.sub k hk) hw).symm, (I.acts t).2⟩)
      rho := fun t hn => by
        rw [Env.put_ne (fun hd => hn ⟨i, List.mem_cons_self, o, ho, hd⟩)]
        exact I.rho t (fun ⟨k, hk, hw⟩ => hn ⟨k, List.mem_cons_of_mem _ hk, hw⟩)
      sub := fun k hk => by
        rcases (isL_set hil).1 hk with rfl | hk
        · exact List.mem_cons_self
        · exact List.mem_cons_of_mem _ (I.sub k hk)
      closed := fun k hk j hj => by
        rcases (isL_set hil).1 hk with rfl | hk
        · exact isL_mono (hanc j hj)
        · exact isL_mono (I.closed k hk j hj)
      dclosed := fun k hk j hj => by
        rcases List.mem_cons.1 hk with rfl | hk
        · exact List.mem_cons_of_mem _ (hancd j hj)
        · exact List.mem_cons_of_mem _ (I.dclosed k hk j hj)
      recs := fun k hk hnl' => by
        rcases List.mem_cons.1 hk with rfl | hk
        · exact absurd ((isL_set hil).2 (.inl rfl)) hnl'
        · have hnk : ¬ isL listed k := fun h => hnl' (isL_mono h)
          obtain ⟨_, r2⟩ := I.recs k hk hnk
          rcases r2 with h | ⟨p, hp, hpi, h⟩
          · exact ⟨keep k hk w' (h w'), .inl (fun w'' => keep k hk w'' (h w''))⟩
          · have hb : bit (anc.getD i 0) p.i = false := by
              cases hbb : bit (anc.getD i 0) p.i with
              | false => rfl
              | true => exact absurd (hanc k (by unfold A; rw [← hpi]; exact hbb)) hnk
            have hp' := mem_beside hp hb
            exact ⟨keep k hk w' (h w' (hall p hp')), .inr ⟨p, hp', hpi, fun w'' hr => keep k hk w'' (h w'' hr)⟩⟩
      knok := hk'.put C.hu ho hi v
      plan := hplan
      nd := List.nodup_cons.2 ⟨hi, I.nd⟩
      lt := fun k hk => by
        rcases List.mem_cons.1 hk with rfl | hk
        · exact hlt'
        · exact I.lt k hk
      vc := hvc }
  unfold wpOp
  rw [ho]
  simp only [hwd, if_true]
  refine .inl ?_
  unfold Oper.wp
  rw [exec_eq (slots_nosel C.h3 ho) hl, hs]
  simp only [xE] at hE
  generalize s.run P w = r at *
  cases r with
  | ok x w' =>
    cases x <;> simp only at hE <;> first
      | exact hE.elim
      | exact fin _ _ hE
      | exact Calls.mono hE (fun e w'' he => by cases e <;> first | exact fin _ _ he | exact he.elim)
  | halt x w' => exact hE.elim

/-- Whatever may come up next goes through. -/
theorem Inv.next (C : Checks ops anc n) {listed : Array Bool} {a : Act} {w : World} {i : Nat} (hlt : i < ops.size) (hnl : ¬ isL listed i) (hanc : ∀ j, A anc i j → isL listed j)
    (hedge : ∀ o, ops[i]? = some o → ∀ e ∈ o.after.toList, Region.binds .any e = true → isL listed e.on) :
    ∀ (rest : Plan) (done ex : List Nat) (pend : List Pend) (kn : List (Nat × Option Bool)) (ρ : Env), Inv P ops anc n K Q ρ0 listed done rest ex pend kn ρ a w → i ∉ ex → i ∉ done →
      wpOp P ops Q i (fun a' w' => ∃ done rest pend kn ρ, Inv P ops anc n K Q ρ0 (listed.setIfInBounds i true) done rest [] pend kn ρ a' w') a w := by
  intro rest
  induction rest with
  | nil =>
    intro done ex pend kn ρ I _ hid
    have hlen := I.plan
    simp only [planOK] at hlen
    exact absurd (nodup_full I.nd I.lt (Nat.eq_of_beq_eq_true hlen) i hlt) hid
  | op j rest ih =>
    intro done ex pend kn ρ I hex hid
    have hpl := I.plan
    simp only [planOK, Bool.and_eq_true, Bool.not_eq_true'] at hpl
    obtain ⟨⟨⟨⟨⟨hlt2, hnot⟩, hedge2⟩, _⟩, heff⟩, hplan⟩ := hpl
    rcases I.meet C with ⟨pend', kn', ρ', I'⟩ | ⟨o, s, kn', ho, he, hh, hk', hgw, hE⟩
    · by_cases hid' : i ∈ j :: done
      · exact I'.carry C hid' hnl hanc (fun a' h => h)
      · exact ih (j :: done) [] pend' kn' ρ' I' (by simp) hid'
    · by_cases hij : i = j
      · subst hij
        exact I.effect C hlt hid hedge2 hplan hanc ho hh hk' hgw hE
      · exfalso
        rw [he, cond_true] at heff
        have := List.all_eq_true.1 heff i (List.mem_range.2 hlt)
        simp only [Bool.or_eq_true, Bool.not_eq_true'] at this
        rcases this with ((h | h) | h) | h
        · exact hij (Nat.eq_of_beq_eq_true h)
        · exact hid (any_beq.1 h)
        · exact hex (any_beq.1 h)
        · have : edgesIn ops done i = true := by
            unfold edgesIn
            rw [Array.getElem?_eq_getElem hlt]
            refine List.all_eq_true.2 (fun e hee => ?_)
            cases hb : Region.binds .any e with
            | false => rfl
            | true => simpa using any_beq.2 (I.sub _ (hedge _ (Array.getElem?_eq_getElem hlt) e hee hb))
          rw [this] at h
          cases h
  | alt j p q _ ihq =>
    intro done ex pend kn ρ I hex hid
    have hpl := I.plan
    simp only [planOK, Bool.and_eq_true, Bool.not_eq_true'] at hpl
    obtain ⟨⟨⟨⟨⟨⟨hlt2, hnot⟩, hedge2⟩, hgs⟩, heff⟩, hplan⟩, hplanq⟩ := hpl
    obtain ⟨hv1, hv2⟩ := I.vc
    by_cases hij : i = j
    · subst hij
      obtain ⟨o, ho, doIt, kn', hg, hcase⟩ := step_cases hv1
      -- the same operation, met as the head of a plan
      have I1 : Inv P ops anc n K Q ρ0 listed done (.op i p) ((List.range ops.size).filter fun k => !Nat.beq k i) pend kn ρ a w :=
        { I with
          plan := by
            simp only [planOK, Bool.and_eq_true, Bool.not_eq_true']
            refine ⟨⟨⟨⟨⟨hlt2, hnot⟩, hedge2⟩, hgs⟩, ?_⟩, hplan⟩
            rw [heff, cond_true]
            refine List.all_eq_true.2 (fun k hk => ?_)
            cases hb : Nat.beq k i with
            | true => simp
            | false =>
              have : ((List.range ops.size).filter fun k => !Nat.beq k i).any (fun x => Nat.beq x k) = true := any_beq.2 (List.mem_filter.2 ⟨hk, by simp [hb]⟩)
              simp [this]
          vc := hv1 }
      rcases I1.meet C with ⟨pend', kn'', ρ', I'⟩ | ⟨o, s, kn'', ho', he, hh, hk', hgw, hE⟩
      · exact I'.carry C List.mem_cons_self hnl hanc (fun a' h => h)
      · exact I1.effect C hlt hid hedge2 hplan hanc ho' hh hk' hgw hE
    · exact ihq done (j :: ex) pend kn ρ { I with plan := hplanq, vc := hv2 } (by simp [hij, hex]) hid

theorem ready_spec {listed : Array Bool} {i : Nat} (h : i ∈ Region.ready .any ops listed) (hs : listed.size = ops.size) :
    i < ops.size ∧ ¬ isL listed i ∧ ∃ o, ops[i]? = some o ∧ ∀ e ∈ o.after.toList, Region.binds .any e = true → isL listed e.on := by
  unfold Region.ready at h
  obtain ⟨h1, h2⟩ := List.mem_filter.1 h
  have hlt := List.mem_range.1 h1
  simp only [Bool.and_eq_true, Bool.not_eq_true'] at h2
  refine ⟨hlt, ?_, ops[i], Array.getElem?_eq_getElem hlt, ?_⟩
  · unfold isL
    have := h2.1
    simp only [Array.getD_eq_getD_getElem?, Array.getElem?_eq_getElem (hs ▸ hlt : i < listed.size), Option.getD_some] at this ⊢
    simp [this]
  · intro e he hb
    have h3 := h2.2
    rw [Array.getElem?_eq_getElem hlt] at h3
    simp only [Option.map_some, Option.getD_some] at h3
    have := (Array.all_eq_true'.1 h3) e (by simpa using he)
    rw [hb] at this
    unfold isL
    simpa using this

theorem ready_none (C : Checks ops anc n) {listed : Array Bool} (hs : listed.size = ops.size) (h : Region.ready .any ops listed = []) : ∀ m i, i < m → i < ops.size → isL listed i := by
  intro m
  induction m with
  | zero => intro i hi; omega
  | succ m ih =>
    intro i him hi
    cases hb : listed.getD i false with
    | true => exact hb
    | false =>
      exfalso
      have : i ∈ Region.ready .any ops listed := by
        unfold Region.ready
        refine List.mem_filter.2 ⟨List.mem_range.2 hi, ?_⟩
        simp only [Bool.and_eq_true, Bool.not_eq_true']
        constructor
        · simp only [Array.getD_eq_getD_getElem?, Array.getElem?_eq_getElem (hs ▸ hi : i < listed.size), Option.getD_some] at hb ⊢
          exact hb
        · rw [Array.getElem?_eq_getElem hi]
          simp only [Option.map_some, Option.getD_some]
          refine Array.all_eq_true'.2 (fun e he => ?_)
          cases hbb : Region.binds .any e with
          | false => simp
          | true =>
            have hai := List.all_eq_true.1 C.h1 i (List.mem_range.2 hi)
            unfold ancOK at hai
            rw [Array.getElem?_eq_getElem hi] at hai
            simp only [Bool.and_eq_true] at hai
            have hlt := List.all_eq_true.1 hai.2 e (by simpa using he)
            rw [hbb] at hlt
            have hlt' : e.on < i := by simpa [Nat.blt_eq] using hlt
            have := ih e.on (by omega) (by omega)
            unfold isL at this
            rw [this]; rfl
      rw [h] at this
      cases this

theorem Inv.all (C : Checks ops anc n) : ∀ (fuel : Nat) (listed : Array Bool) (a : Act) (w : World),
    (∀ a ρ w, Rep n a ρ → K ρ w → (∀ t, t ∉ writesOps ops → ρ t = ρ0 t) → Q .normal a w) →
    ((List.range ops.size).filter fun i => !listed.getD i false).length ≤ fuel →
    (∃ done rest pend kn ρ, Inv P ops anc n K Q ρ0 listed done rest [] pend kn ρ a w) → wpAny P .any ops Q fuel listed a w := by
  intro fuel
  have last : ∀ (listed : Array Bool) (a : Act) (w : World), (∀ a ρ w, Rep n a ρ → K ρ w → (∀ t, t ∉ writesOps ops → ρ t = ρ0 t) → Q .normal a w) →
      (∃ done rest pend kn ρ, Inv P ops anc n K Q ρ0 listed done rest [] pend kn ρ a w) → Region.ready .any ops listed = [] → Q .normal a w := by
    intro listed a w hQ ⟨done, rest, pend, kn, ρ, I⟩ hr
    have hall : ∀ i, i < ops.size → isL listed i := fun i hi => ready_none C I.size hr (i + 1) i (by omega) hi
    -- all is done: what is left of the plan can be nothing
    have hnil : ∃ ρ', K ρ' w ∧ (∀ t, ¬ Wr ops (· ∈ done) t → ρ' t = ρ0 t) ∧ (∀ t, Wr ops (isL listed) t → a.tmps.getD t undef = ρ' t) := by
      have hd : ∀ k, k < ops.size → k ∈ done := fun k hk => I.sub k (hall k hk)
      have hv := I.vc
      have hp := I.plan
      cases rest with
      | nil => exact ⟨ρ, hv, I.rho, fun t => (I.acts t).1⟩
      | op i p =>
        simp only [planOK, Bool.and_eq_true, Bool.not_eq_true'] at hp
        obtain ⟨⟨⟨⟨⟨hlt2, hnot⟩, _⟩, _⟩, _⟩, _⟩ := hp
        rw [any_beq.2 (hd i (by simpa [Nat.blt_eq] using hlt2))] at hnot
        cases hnot
      | alt i p q =>
        simp only [planOK, Bool.and_eq_true, Bool.not_eq_true'] at hp
        obtain ⟨⟨⟨⟨⟨⟨hlt2, hnot⟩, _⟩, _⟩, _⟩, _⟩, _⟩ := hp
        rw [any_beq.2 (hd i (by simpa [Nat.blt_eq] using hlt2))] at hnot
        cases hnot
    obtain ⟨ρ', hv, hrho, hacts⟩ := hnil
    refine hQ a ρ' w ⟨I.df, I.sz, fun t => ?_⟩ hv (fun t ht => hrho t (fun ⟨k, _, o, ho, hd⟩ => ht (mem_writesOps ho hd)))
    by_cases hw : Wr ops (isL listed) t
    · exact hacts t hw
    · rw [(I.acts t).2 hw]
      refine (hrho t (fun ⟨k, hk, hw'⟩ => hw ⟨k, hall k (I.lt k hk), hw'⟩)).symm
  induction fuel with
  | zero =>
    intro listed a w hQ hf hI
    obtain ⟨done, rest, pend, kn, ρ, I⟩ := hI
    have hr : Region.ready .any ops listed = [] := by
      refine List.eq_nil_iff_forall_not_mem.2 (fun i hi => ?_)
      obtain ⟨h1, h2, _⟩ := ready_spec hi I.size
      have : i ∈ (List.range ops.size).filter fun i => !listed.getD i false := List.mem_filter.2 ⟨List.mem_range.2 h1, by
        unfold isL at h2
        simpa using h2⟩
      rw [List.eq_nil_of_length_eq_zero (Nat.le_zero.1 hf)] at this
      cases this
    exact ⟨hr, last listed a w hQ ⟨done, rest, pend, kn, ρ, I⟩ hr⟩
  | succ fuel ih =>
    intro listed a w hQ hf hI
    refine ⟨last listed a w hQ hI, fun i hi => ?_⟩
    obtain ⟨done, rest, pend, kn, ρ, I⟩ := hI
    obtain ⟨h1, h2, o, ho, he⟩ := ready_spec hi I.size
    have hanc : ∀ j, A anc i j → isL listed j := by
      intro j hj
      obtain ⟨o', ho', e, hee, hb, _, hjj⟩ := anc_step C.h1 C.h2 hj
      rw [ho] at ho'; cases ho'
      have hon := he e hee hb
      rcases hjj with rfl | hjj
      · exact hon
      · exact I.closed _ hon j hjj
    have hdec : ((List.range ops.size).filter fun k => !(listed.setIfInBounds i true).getD k false).length ≤ fuel :=
      Nat.le_of_lt_succ (Nat.lt_of_lt_of_le (count_lt h1 (I.size ▸ h1) (by unfold isL at h2; simpa using h2)) hf)
    by_cases hx : i ∈ done
    · exact wpOp_mono (fun a' w' hI' => ih _ _ _ hQ hdec hI') (I.carry C hx h2 hanc (fun a' h => h))
    · exact wpOp_mono (fun a' w' hI' => ih _ _ _ hQ hdec hI') (I.next C h1 h2 hanc (fun o' ho' e hee hb => by rw [ho] at ho'; cases ho'; exact he e hee hb) rest done [] pend kn ρ (by simp) hx)

/-- The region that draws. -/
theorem regVC_draw {plan : Plan} (hc : drawOK P ops anc n plan = true) (hm : P.follows .mixedOrders = true) {id : Nat} {a : Act} {w : World}
    (hQ : ∀ a ρ w, Rep n a ρ → K ρ w → (∀ t, t ∉ writesOps ops → ρ t = ρ0 t) → Q .normal a w)
    (hr : Rep n a ρ0) (h : regVC P ops true anc K plan [] [] ρ0 w.drew) : (Code.region id ops true).wp P Q a w := by
  simp only [drawOK, Bool.and_eq_true] at hc
  obtain ⟨⟨⟨⟨⟨hu, hb⟩, hpl⟩, h1⟩, h2⟩, h3⟩ := hc
  have C : Checks ops anc n := ⟨hu, hb, h1, h2, h3⟩
  refine wp_region_any hm (Inv.all C ops.size _ a _ hQ ?_ ⟨[], plan, [], [], ρ0, ?_⟩)
  · exact Nat.le_trans (List.length_filter_le _ _) (by simp)
  · have hno : ∀ i, ¬ isL (Array.replicate ops.size false) i := by
      intro i hi
      unfold isL at hi
      by_cases h : i < ops.size
      · simp [Array.getD, h] at hi
      · simp [Array.getD, h] at hi
    exact {
      size := by simp, df := hr.1, sz := hr.2.1
      acts := fun t => ⟨fun ⟨k, hk, _⟩ => absurd hk (hno k), fun _ => hr.2.2 t⟩
      rho := fun _ _ => rfl
      sub := fun i hi => absurd hi (hno i)
      closed := fun i hi => absurd hi (hno i)
      dclosed := fun i hi => by cases hi
      recs := fun i hi => by cases hi
      knok := fun g ob hg => by cases hg
      plan := hpl
      nd := List.nodup_nil
      lt := fun i hi => by cases hi
      vc := h }
end
end Go.X

/-! XCode -/
namespace Go.X
set_option linter.unusedSimpArgs false
set_option linter.unusedVariables false
open Go

inductive Ann where
  | nil
  | seq (a b : Ann)
  | join (L : List Nat) (a b : Ann)
  | one (a : Ann)
  | loop (L : List Nat) (a : Ann)
  | draw (plan : Plan) (anc : List Nat)

def Ann.fst : Ann → Ann
  | .seq a _ => a
  | .one a => a
  | _ => .nil
def Ann.snd : Ann → Ann
  | .seq _ b => b
  | _ => .nil

def writes : Code → List Nat
  | .region _ ops _ => writesOps ops
  | .seq a b => writes a ++ writes b
  | .cond _ a b => writes a ++ writes b
  | .block _ c => writes c
  | .loop c => writes c
  | .scope c => writes c
  | _ => []

def posIn : List Nat → Nat → Nat → Option Nat
  | [], _, _ => none
  | u :: r, t, k => bif Nat.beq u t then some k else posIn r t (k + 1)
def memB : List Nat → Nat → Bool
  | [], _ => false
  | u :: r, t => bif Nat.beq u t then true else memB r t
def envJ (ρ : Env) (Ws L : List Nat) (vs : List Value) (junk : Env) : Env := fun t =>
  match posIn L t 0 with
  | some k => vs.getD k undef
  | none => bif memB Ws t then junk t else ρ t

def xJoin (b1 : (List Value → World → Prop) → Prop) (b2 : List Value → Env → World → Prop) : Prop :=
  ∃ J : List Value → World → Prop, b1 J ∧ ∀ vs junk w, J vs w → b2 vs junk w
def xLoop (vs0 : List Value) (w0 : World) (body : (List Value → World → Prop) → List Value → Env → World → Prop) : Prop :=
  ∃ (I : List Value → World → Prop) (μ : List Value → World → Nat), I vs0 w0 ∧
    ∀ vs junk w, I vs w → body (fun vs' w' => I vs' w' ∧ μ vs' w' < μ vs w) vs junk w

abbrev Post := Exit → Env → World → Prop
def thenQ (next : Env → World → Prop) (Q : Post) : Post := fun e ρ w => match e with
  | .normal => next ρ w
  | .exit i => Q (.exit i) ρ w
  | .ret => Q .ret ρ w
  | .goto l => Q (.goto l) ρ w
  | _ => False
def inBlk (id : Nat) (Q : Post) : Post := fun e ρ w => match e with
  | .exit i => bif Nat.beq i id then Q .normal ρ w else Q (.exit i) ρ w
  | .normal => Q .normal ρ w
  | .ret => Q .ret ρ w
  | .goto l => Q (.goto l) ρ w
  | _ => False
def toJ (L : List Nat) (J : List Value → World → Prop) (Q : Post) : Post := thenQ (fun ρ w => J (L.map ρ) w) Q

def vc (P : Program) : Code → Ann → Post → Env → World → Prop
  | .skip, _, Q, ρ, w => Q .normal ρ w
  | .region _ ops d, an, Q, ρ, w => match d with
    | false => regVC P ops false [] (Q .normal) (planOf (List.range ops.size)) [] [] ρ w
    | true => match an with
      | .draw plan anc => regVC P ops true anc (Q .normal) plan [] [] ρ w.drew
      | _ => False
  | .seq x y, an, Q, ρ, w => match an with
    | .join L a b => xJoin (fun J => vc P x a (toJ L J Q) ρ w) (fun vs junk w' => vc P y b Q (envJ ρ (writes x) L vs junk) w')
    | .seq a b => vc P x a (thenQ (fun ρ' w' => vc P y b Q ρ' w') Q) ρ w
    | _ => vc P x .nil (thenQ (fun ρ' w' => vc P y .nil Q ρ' w') Q) ρ w
  | .cond c x y, an, Q, ρ, w => xIf (ev ρ c) (vc P x an.fst Q ρ w) (vc P y an.snd Q ρ w)
  | .block id c, an, Q, ρ, w => vc P c an.fst (inBlk id Q) ρ w
  | .loop c, an, Q, ρ, w => match an with
    | .loop L a => xLoop (L.map ρ) w (fun J vs junk w' => vc P c a (toJ L J Q) (envJ ρ (writes c) L vs junk) w')
    | _ => False
  | .exit id, _, Q, ρ, w => Q (.exit id) ρ w
  | .ret, _, Q, ρ, w => Q .ret ρ w
  | _, _, _, _, _ => False

def rangeOf (ops : Array Oper) : List Nat := List.range ops.size
def codeOK (P : Program) (n : Nat) : Code → Ann → Bool
  | .region _ ops d, an => match d with
    | false => uniqL (dsts ops) && boundL n (dsts ops) && guardsOK ops [] (List.range ops.size)
    | true => match an with
      | .draw plan anc => drawOK P ops anc n plan
      | _ => false
  | .seq x y, an => match an with
    | .join _ a b => codeOK P n x a && codeOK P n y b
    | .seq a b => codeOK P n x a && codeOK P n y b
    | _ => codeOK P n x .nil && codeOK P n y .nil
  | .cond _ x y, an => codeOK P n x an.fst && codeOK P n y an.snd
  | .block _ c, an => codeOK P n c an.fst
  | .loop c, an => match an with
    | .loop _ a => codeOK P n c a
    | _ => false
  | _, _ => true

theorem posIn_spec : ∀ {L : List Nat} {t k m : Nat}, posIn L t k = some m → k ≤ m ∧ L[m - k]? = some t
  | [], _, _, _, h => by cases h
  | u :: r, t, k, m, h => by
    simp only [posIn] at h
    cases hb : Nat.beq u t with
    | true =>
      rw [hb] at h
      simp at h
      subst h
      simp [Nat.eq_of_beq_eq_true hb]
    | false =>
      rw [hb] at h
      obtain ⟨h1, h2⟩ := posIn_spec (L := r) h
      refine ⟨by omega, ?_⟩
      have : m - k = (m - (k + 1)) + 1 := by omega
      rw [this]
      simpa using h2

theorem memB_spec : ∀ {L : List Nat} {t : Nat}, memB L t = false → t ∉ L
  | [], _, _ => by simp
  | u :: r, t, h => by
    simp only [memB] at h
    cases hb : Nat.beq u t with
    | true => rw [hb] at h; cases h
    | false =>
      rw [hb] at h
      have := memB_spec (L := r) h
      intro hm
      rcases List.mem_cons.1 hm with rfl | hm
      · simp at hb
      · exact this hm

theorem envJ_self {ρ ρ' : Env} {Ws L : List Nat} (h : ∀ t, t ∉ Ws → ρ' t = ρ t) : envJ ρ Ws L (L.map ρ') ρ' = ρ' := by
  funext t
  unfold envJ
  cases hp : posIn L t 0 with
  | some k =>
    have := (posIn_spec hp).2
    simp at this
    simp [List.getD, this]
  | none =>
    cases hm : memB Ws t with
    | true => rfl
    | false => exact (h t (memB_spec hm)).symm

theorem vc_sound {P : Program} {n : Nat} (hm : P.follows .mixedOrders = true) : ∀ (c : Code) (an : Ann) (Q : Post) (ρ : Env) (a : Act) (w : World),
    codeOK P n c an = true → Rep n a ρ → vc P c an Q ρ w →
    c.wp P (fun e a' w' => ∃ ρ', Rep n a' ρ' ∧ Q e ρ' w' ∧ ∀ t, t ∉ writes c → ρ' t = ρ t) a w := by
  intro c
  induction c with
  | skip => intro an Q ρ a w _ hr h; exact wp_skip ⟨ρ, hr, h, fun _ _ => rfl⟩
  | region id ops d =>
    intro an Q ρ a w hc hr h
    cases d with
    | false =>
      simp only [codeOK, Bool.and_eq_true] at hc
      refine wp_region (regVC_seq (n := n) (K := Q .normal) (anc := []) hc.1.1 hc.1.2 ρ (fun a' ρ' w' hr' hk hw => ⟨ρ', hr', hk, hw⟩) (List.range ops.size) [] [] [] ρ a w (by simp) List.nodup_range hc.2 (fun g ob hg => by cases hg) hr (fun _ _ => rfl) h)
    | true =>
      cases an with
      | draw plan anc =>
        simp only [codeOK] at hc
        exact regVC_draw (n := n) hc hm (fun a' ρ' w' hr' hk hw => ⟨ρ', hr', hk, hw⟩) hr h
      | _ => exact h.elim
  | seq x y ihx ihy =>
    intro an Q ρ a w hc hr h
    have common : ∀ (b : Ann) (Q1 : Post), (∀ ρ' w', Q1 .normal ρ' w' → (∀ t, t ∉ writes x → ρ' t = ρ t) → ∀ a', Rep n a' ρ' → y.wp P (fun e a'' w'' => ∃ ρ'', Rep n a'' ρ'' ∧ Q e ρ'' w'' ∧ ∀ t, t ∉ writes (.seq x y) → ρ'' t = ρ t) a' w') →
        (∀ e ρ' w', e ≠ .normal → Q1 e ρ' w' → Q e ρ' w') → vc P x b Q1 ρ w → codeOK P n x b = true →
        (Code.seq x y).wp P (fun e a'' w'' => ∃ ρ'', Rep n a'' ρ'' ∧ Q e ρ'' w'' ∧ ∀ t, t ∉ writes (.seq x y) → ρ'' t = ρ t) a w := by
      intro b Q1 hn he hx hcx
      refine wp_seq (wp_mono (ihx b Q1 ρ a w hcx hr hx) ?_)
      intro e a' w' hq
      obtain ⟨ρ', hr', hq1, hw⟩ := hq
      have hsub : ∀ t, t ∉ writes (.seq x y) → ρ' t = ρ t := fun t ht => hw t (fun h => ht (List.mem_append.2 (.inl h)))
      cases e with
      | normal => exact hn ρ' w' hq1 hw a' hr'
      | exit i => exact ⟨ρ', hr', he _ _ _ (by simp) hq1, hsub⟩
      | goto l => exact ⟨ρ', hr', he _ _ _ (by simp) hq1, hsub⟩
      | ret => exact ⟨ρ', hr', he _ _ _ (by simp) hq1, hsub⟩
      | panic ch => exact ⟨ρ', hr', he _ _ _ (by simp) hq1, hsub⟩
      | outgrown => exact ⟨ρ', hr', he _ _ _ (by simp) hq1, hsub⟩
    have thn : ∀ (ρ1 : Env) (b : Ann) (ρ' : Env) (w' : World), codeOK P n y b = true → vc P y b Q ρ' w' → (∀ t, t ∉ writes x → ρ' t = ρ t) → ∀ a', Rep n a' ρ' →
        y.wp P (fun e a'' w'' => ∃ ρ'', Rep n a'' ρ'' ∧ Q e ρ'' w'' ∧ ∀ t, t ∉ writes (.seq x y) → ρ'' t = ρ t) a' w' := by
      intro _ b ρ' w' hcy hy hw a' hr'
      refine wp_mono (ihy b Q ρ' a' w' hcy hr' hy) ?_
      intro e a'' w'' hq
      obtain ⟨ρ'', hr'', hq2, hw2⟩ := hq
      refine ⟨ρ'', hr'', hq2, fun t ht => ?_⟩
      have ht' : t ∉ writes x ∧ t ∉ writes y := ⟨fun h => ht (List.mem_append.2 (.inl h)), fun h => ht (List.mem_append.2 (.inr h))⟩
      exact (hw2 t ht'.2).trans (hw t ht'.1)
    have plain : ∀ (a' b' : Ann), codeOK P n x a' = true → codeOK P n y b' = true → vc P x a' (thenQ (fun ρ' w' => vc P y b' Q ρ' w') Q) ρ w → _ := fun a' b' hx hy hv =>
      common a' _ (fun ρ' w' hq hw a'' hr'' => thn ρ b' ρ' w' hy hq hw a'' hr'') (fun e ρ' w' hne hq => by
        cases e with
        | normal => exact absurd rfl hne
        | exit i => exact hq
        | goto l => exact hq
        | ret => exact hq
        | panic ch => exact hq.elim
        | outgrown => exact hq.elim) hv hx
    cases an with
    | join L a' b' =>
      simp only [codeOK, Bool.and_eq_true] at hc
      obtain ⟨J, hj1, hj2⟩ := h
      refine common a' _ (fun ρ' w' hq hw a'' hr'' => ?_) (fun e ρ' w' hne hq => by
        cases e with
        | normal => exact absurd rfl hne
        | exit i => exact hq
        | goto l => exact hq
        | ret => exact hq
        | panic ch => exact hq.elim
        | outgrown => exact hq.elim) hj1 hc.1
      have := hj2 (L.map ρ') ρ' w' hq
      dsimp only at this
      rw [envJ_self hw] at this
      exact thn ρ b' ρ' w' hc.2 this hw a'' hr''
    | seq a' b' =>
      simp only [codeOK, Bool.and_eq_true] at hc
      exact plain a' b' hc.1 hc.2 h
    | nil => simp only [codeOK, Bool.and_eq_true] at hc; exact plain .nil .nil hc.1 hc.2 h
    | one _ => simp only [codeOK, Bool.and_eq_true] at hc; exact plain .nil .nil hc.1 hc.2 h
    | loop _ _ => simp only [codeOK, Bool.and_eq_true] at hc; exact plain .nil .nil hc.1 hc.2 h
    | draw _ _ => simp only [codeOK, Bool.and_eq_true] at hc; exact plain .nil .nil hc.1 hc.2 h
  | cond c x y ihx ihy =>
    intro an Q ρ a w hc hr h
    simp only [codeOK, Bool.and_eq_true] at hc
    rcases h with ⟨hv, h⟩ | ⟨hv, h⟩
    · refine wp_cond_true (by rw [hr.ev]; exact hv) (wp_mono (ihx an.fst Q ρ a w hc.1 hr h) ?_)
      exact fun e a' w' ⟨ρ', h1, h2, h3⟩ => ⟨ρ', h1, h2, fun t ht => h3 t (fun h => ht (List.mem_append.2 (.inl h)))⟩
    · refine wp_cond_false (by rw [hr.ev]; exact hv) (wp_mono (ihy an.snd Q ρ a w hc.2 hr h) ?_)
      exact fun e a' w' ⟨ρ', h1, h2, h3⟩ => ⟨ρ', h1, h2, fun t ht => h3 t (fun h => ht (List.mem_append.2 (.inr h)))⟩
  | block id c ih =>
    intro an Q ρ a w hc hr h
    simp only [codeOK] at hc
    refine wp_block (wp_mono (ih an.fst (inBlk id Q) ρ a w hc hr h) ?_)
    intro e a' w' hq
    obtain ⟨ρ', h1, h2, h3⟩ := hq
    cases e with
    | exit i =>
      simp only [inBlk] at h2
      simp only [Exit.inBlock]
      by_cases hi : i = id
      · subst hi
        simp only [Nat.beq_refl, cond_true] at h2
        rw [if_pos rfl]
        exact ⟨ρ', h1, h2, h3⟩
      · have : Nat.beq i id = false := by
          cases hb : Nat.beq i id with
          | false => rfl
          | true => exact absurd (Nat.eq_of_beq_eq_true hb) hi
        rw [this, cond_false] at h2
        rw [if_neg hi]
        exact ⟨ρ', h1, h2, h3⟩
    | normal => exact ⟨ρ', h1, h2, h3⟩
    | goto l => exact ⟨ρ', h1, h2, h3⟩
    | ret => exact ⟨ρ', h1, h2, h3⟩
    | panic ch => exact h2.elim
    | outgrown => exact h2.elim
  | loop c ih =>
    intro an Q ρ a w hc hr h
    cases an with
    | loop L an' =>
      simp only [codeOK] at hc
      obtain ⟨I, μ, h0, hround⟩ := h
      have hmap : ∀ (a : Act) (ρ : Env), Rep n a ρ → (L.map fun t => a.tmps.getD t undef) = L.map ρ := fun a ρ hr => List.map_congr_left (fun t _ => hr.2.2 t)
      refine wp_loop (fun a w => ∃ ρ', Rep n a ρ' ∧ I (L.map ρ') w ∧ ∀ t, t ∉ writes c → ρ' t = ρ t) (fun a w => μ (L.map fun t => a.tmps.getD t undef) w) ⟨ρ, hr, h0, fun _ _ => rfl⟩ ?_
      intro a' w' hI
      obtain ⟨ρ', hr', hi, hw⟩ := hI
      have hb := hround (L.map ρ') ρ' w' hi
      dsimp only at hb
      rw [envJ_self hw] at hb
      refine wp_mono (ih an' _ ρ' a' w' hc hr' hb) ?_
      intro e a'' w'' hq
      obtain ⟨ρ'', hr'', hq, hw2⟩ := hq
      have hw3 : ∀ t, t ∉ writes c → ρ'' t = ρ t := fun t ht => (hw2 t ht).trans (hw t ht)
      cases e with
      | normal => exact ⟨⟨ρ'', hr'', hq.1, hw3⟩, by rw [hmap a'' ρ'' hr'', hmap a' ρ' hr']; exact hq.2⟩
      | exit i => exact ⟨ρ'', hr'', hq, hw3⟩
      | goto l => exact ⟨ρ'', hr'', hq, hw3⟩
      | ret => exact ⟨ρ'', hr'', hq, hw3⟩
      | panic ch => exact hq.elim
      | outgrown => exact hq.elim
    | _ => exact h.elim
  | exit id => intro an Q ρ a w _ hr h; exact wp_exit ⟨ρ, hr, h, fun _ _ => rfl⟩
  | ret => intro an Q ρ a w _ hr h; exact wp_ret ⟨ρ, hr, h, fun _ _ => rfl⟩
  | rangeFunc _ _ _ _ _ _ => intro an Q ρ a w _ _ h; exact h.elim
  | scope _ _ => intro an Q ρ a w _ _ h; exact h.elim
  | label _ => intro an Q ρ a w _ _ h; exact h.elim
  | goto _ => intro an Q ρ a w _ _ h; exact h.elim
  | refuse _ => intro an Q ρ a w _ _ h; exact h.elim

/-! ## A function -/
def resVC (P : Program) : List ResultVar → Env → World → (List Value → Prop) → Prop
  | [], _, _, K => K []
  | .tmp t :: r, ρ, w, K => resVC P r ρ w fun vs => K (ρ t :: vs)
  | .cell p T :: r, ρ, w, K => xR P (sLoad T (ρ p)) w fun v => resVC P r ρ w fun vs => K (v :: vs)
def pack : List Value → Value
  | [v] => v
  | vs => .tuple vs.toArray
def retQ (P : Program) (rs : List ResultVar) (R : Ending → World → Prop) : Post := fun e ρ w => match e with
  | .normal => resVC P rs ρ w fun vs => R (.returned (pack vs)) w
  | .ret => resVC P rs ρ w fun vs => R (.returned (pack vs)) w
  | _ => False
def bodyOf (fn : Func) : Code := fn.body.getD .skip
def funcVC (P : Program) (fn : Func) (an : Ann) (args : List Value) (w : World) (R : Ending → World → Prop) : Prop :=
  vc P (bodyOf fn) an (retQ P fn.results.toList R) (ofList args) w
def funcOK (P : Program) (fn : Func) (an : Ann) (nargs : Nat) : Bool :=
  fn.body.isSome && Nat.ble nargs fn.ntmps && codeOK P fn.ntmps (bodyOf fn) an && P.follows .mixedOrders

theorem load_pointer {P : Program} {T : TypeId} {p v : Value} {w : World} (h : (sLoad T p).run P w = .ok (.value v) w) :
    (do loadVar T (← asAddr p) : Sem Value).run P w = .ok v w := by
  have e : (sLoad T p).run P w = ((Instr.loadAt T p).run P w).andThen fun v w' => .ok (.value v) w' := by
    unfold sLoad
    rw [Sem.run_bind]
    rfl
  rw [e] at h
  unfold Instr.loadAt at h
  have key : ∀ a, (Instr.sureAddr p = pure a) → (asAddr p = pure a) → (do loadVar T (← asAddr p) : Sem Value).run P w = .ok v w := by
    intro a h1 h2
    rw [h1] at h
    rw [h2]
    simp only [pure_bind] at h ⊢
    cases hr : (loadVar T a).run P w with
    | ok u w' =>
      rw [hr] at h
      simp at h
      obtain ⟨rfl, rfl⟩ := h
      rfl
    | halt x w' => rw [hr] at h; simp at h
  cases p with
  | pointer a =>
    cases a with
    | some a => exact key a rfl rfl
    | none => simp [Instr.sureAddr] at h
  | _ => simp [Instr.sureAddr] at h

def oneRes (tmps : Array Value) (x : ResultVar) : Sem Value :=
  match x with
  | .tmp t => pure (tmps.getD t undef)
  | .cell a t => do loadVar t (← asAddr (tmps.getD a undef))

theorem resVC_sound {P : Program} {n : Nat} {a : Act} {ρ : Env} {w : World} (hr : Rep n a ρ) : ∀ (rs : List ResultVar) (K : List Value → Prop), resVC P rs ρ w K →
    ∃ vs, (rs.mapM (oneRes a.tmps)).run P w = .ok vs w ∧ K vs := by
  intro rs
  induction rs with
  | nil => intro K h; exact ⟨[], rfl, h⟩
  | cons x rs ih =>
    intro K h
    cases x with
    | tmp t =>
      obtain ⟨vs, h1, h2⟩ := ih _ h
      refine ⟨ρ t :: vs, ?_, h2⟩
      rw [List.mapM_cons]
      simp only [oneRes, Sem.run_bind, Sem.run_pure, Result.andThen_ok]
      rw [h1, hr.2.2 t]
      rfl
    | cell p T =>
      obtain ⟨v, hv, h⟩ := h
      obtain ⟨vs, h1, h2⟩ := ih _ h
      refine ⟨v :: vs, ?_, h2⟩
      have hl := load_pointer hv
      rw [List.mapM_cons]
      rw [Sem.run_bind]
      simp only [oneRes, hr.2.2 p]
      rw [hl]
      simp only [Result.andThen_ok, Sem.run_bind]
      rw [h1]
      rfl

theorem results_sound {P : Program} {fn : Func} {n : Nat} {a : Act} {ρ : Env} {w : World} (hr : Rep n a ρ) {R : Ending → World → Prop}
    (h : resVC P fn.results.toList ρ w fun vs => R (.returned (pack vs)) w) : a.defers = [] ∧ ∃ v, (results fn a.tmps).run P w = .ok v w ∧ R (.returned v) w := by
  obtain ⟨vs, h1, h2⟩ := resVC_sound hr _ _ h
  refine ⟨hr.1, pack vs, ?_, h2⟩
  have e : results fn a.tmps = (do
      let vs ← fn.results.mapM (oneRes a.tmps)
      pure (if h : vs.size = 1 then vs[0] else .tuple vs)) := by
    unfold results
    congr 1
  rw [e, Sem.run_bind, Array.mapM_eq_mapM_toList, Sem.run_map, h1]
  simp only [Result.andThen_ok, Sem.run_pure]
  congr 1
  match vs with
  | [] => rfl
  | [v] => rfl
  | v :: u :: l => simp [pack]

theorem funcVC_sound {P : Program} {f : FuncId} {fn : Func} {an : Ann} {args : List Value} {w : World} {R : Ending → World → Prop} {k : Nat}
    (hf : P.funcs[f]? = some fn) (hok : funcOK P fn an k = true) (hk : args.length = k) (h : funcVC P fn an args w R) : Calls P f args.toArray w R := by
  simp only [funcOK, Bool.and_eq_true] at hok
  obtain ⟨⟨⟨hb, hle⟩, hc⟩, hm⟩ := hok
  obtain ⟨c, hb'⟩ := Option.isSome_iff_exists.1 hb
  have hbo : bodyOf fn = c := by unfold bodyOf; rw [hb']; rfl
  refine calls_of_wp hf hb' ?_
  rw [← hbo]
  have hrep := Rep.ofArgs args fn.ntmps (by rw [hk]; exact Nat.le_of_ble_eq_true hle)
  refine wp_mono (vc_sound hm (bodyOf fn) an _ _ _ w hc hrep h) ?_
  intro e a' w' hq
  obtain ⟨ρ', hr', hq, _⟩ := hq
  cases e with
  | normal => exact results_sound hr' hq
  | ret => exact results_sound hr' hq
  | exit i => exact hq.elim
  | goto l => exact hq.elim
  | panic ch => exact hq.elim
  | outgrown => exact hq.elim
end Go.X

/-! XRule -/
namespace Go.X
set_option linter.unusedSimpArgs false
set_option linter.unusedVariables false
open Go Go.RowKit

/-! ## What each step gives -/
section
variable {P : Program} {w : World} {K : Value → Prop}

theorem xP_of {s : Sem Next} {v : Value} (h : ∀ w, s.run P w = .ok (.value v) w) : xP P s K ↔ K v :=
  ⟨fun ⟨u, hu, hk⟩ => by
    have := (hu default).symm.trans (h default)
    simp at this
    exact this ▸ hk, fun hk => ⟨v, h, hk⟩⟩
theorem xR_of {s : Sem Next} {v : Value} (h : s.run P w = .ok (.value v) w) : xR P s w K ↔ K v :=
  ⟨fun ⟨u, hu, hk⟩ => by
    have := hu.symm.trans h
    simp at this
    exact this ▸ hk, fun hk => ⟨v, h, hk⟩⟩
theorem xE_of {s : Sem Next} {v : Value} {w' : World} {K : Value → World → Prop} (h : s.run P w = .ok (.value v) w') : xE P s w K ↔ K v w' := by
  unfold xE; rw [h]
theorem xE_skip {s : Sem Next} {w' : World} {K : Value → World → Prop} (h : s.run P w = .ok .skip w') : xE P s w K ↔ K undef w' := by
  unfold xE; rw [h]
theorem xStill_of {s : Sem Next} {v : Value} {B : Prop} (h : s.run P w = .ok (.value v) w) : xStill P s v w B ↔ B := ⟨fun h => h.2, fun hb => ⟨h, hb⟩⟩
theorem xR_run {s : Sem Next} {K : Value → Prop} (h : xR P s w K) : ∃ v, s.run P w = .ok (.value v) w ∧ K v := h

theorem run_value (s : Sem Value) : (do pure (Next.value (← s)) : Sem Next).run P w = (s.run P w).andThen fun v w' => .ok (.value v) w' := by
  rw [Sem.run_bind]
  rfl

theorem xIf_true {A B : Prop} : xIf (.bool true) A B ↔ A := by simp [xIf]
theorem xIf_false {A B : Prop} : xIf (.bool false) A B ↔ B := by simp [xIf]
theorem xIf_bool {b : Bool} {A B : Prop} : xIf (.bool b) A B ↔ (b = true → A) ∧ (b = false → B) := by cases b <;> simp [xIf]
theorem xIf_dec {p : Prop} [Decidable p] {A B : Prop} : xIf (.bool (decide p)) A B ↔ (p → A) ∧ (¬ p → B) := by
  by_cases h : p <;> simp [xIf, h]

theorem xP_nil {a : Addr} : xP P (sNil (.pointer (some a))) K ↔ K (.pointer (some a)) := xP_of fun _ => rfl
theorem xP_pick {b : Bool} {u v : Value} : xP P (sPick (.bool b) u v) K ↔ K (if b then u else v) := by
  cases b <;> exact xP_of fun _ => rfl
theorem xP_func {fn : Fn} {a b : Array Value} : xP P (sFunc fn a b) K ↔ K (.func fn a b) := xP_of fun _ => rfl
theorem xP_not {b : Bool} : xP P (sUn .not (.bool b)) K ↔ K (.bool (!b)) := xP_of fun _ => rfl

/-! ### Integers -/
variable {T : TypeId} {k : IntKind} {a b : Int}
theorem xP_add : xP P (sBin .add T (.int k a) (.int k b)) K ↔ K (.int k (k.wrap (a + b))) := xP_of fun w => by simp [sBin, binOp, Op.intArith]
theorem xP_sub : xP P (sBin .sub T (.int k a) (.int k b)) K ↔ K (.int k (k.wrap (a - b))) := xP_of fun w => by simp [sBin, binOp, Op.intArith]
theorem xP_mul : xP P (sBin .mul T (.int k a) (.int k b)) K ↔ K (.int k (k.wrap (a * b))) := xP_of fun w => by simp [sBin, binOp, Op.intArith]
theorem xP_quo (h : b ≠ 0) : xP P (sBin .quo T (.int k a) (.int k b)) K ↔ K (.int k (k.wrap (a.tdiv b))) := xP_of fun w => by simp [sBin, binOp, Op.intDiv, h]
theorem xP_rem (h : b ≠ 0) : xP P (sBin .rem T (.int k a) (.int k b)) K ↔ K (.int k (a.tmod b)) := xP_of fun w => by simp [sBin, binOp, Op.intDiv, h]
theorem xP_lss : xP P (sBin .lss T (.int k a) (.int k b)) K ↔ K (.bool (decide (a < b))) := xP_of fun w => by simp [sBin, binOp, Op.intCmp]
theorem xP_leq : xP P (sBin .leq T (.int k a) (.int k b)) K ↔ K (.bool (decide (a ≤ b))) := xP_of fun w => by simp [sBin, binOp, Op.intCmp]
theorem xP_gtr : xP P (sBin .gtr T (.int k a) (.int k b)) K ↔ K (.bool (decide (b < a))) := xP_of fun w => by simp [sBin, binOp, Op.intCmp]
theorem xP_geq : xP P (sBin .geq T (.int k a) (.int k b)) K ↔ K (.bool (decide (b ≤ a))) := xP_of fun w => by simp [sBin, binOp, Op.intCmp]
theorem xR_eql {c : Bool} : xR P (sEq .eql T c (.int k a) (.int k b)) w K ↔ K (.bool (decide (a = b))) := xR_of (by simp [sEq, eqGuard, binOp, Op.intCmp]; rfl)
theorem xR_neq {c : Bool} : xR P (sEq .neq T c (.int k a) (.int k b)) w K ↔ K (.bool (decide (a ≠ b))) := xR_of (by simp [sEq, eqGuard, binOp, Op.intCmp]; rfl)
theorem xStill_eql {c x : Bool} {B : Prop} (h : x = decide (a = b)) : xStill P (sEq .eql T c (.int k a) (.int k b)) (.bool x) w B ↔ B := xStill_of (by subst h; simp [sEq, eqGuard, binOp, Op.intCmp]; rfl)
theorem xP_max2 {ts : Array TypeId} : xP P (sB .max ts #[.int k a, .int k b]) K ↔ K (.int k (max a b)) := xP_of fun w => by
  simp only [sB, builtin, Builtin.max_, List.foldlM, Builtin.max2, Sem.run_bind, Sem.run_pure, Result.andThen_ok]
  congr 3
  rw [Int.max_def]
  split <;> split <;> omega
theorem xP_min2 {ts : Array TypeId} : xP P (sB .min ts #[.int k a, .int k b]) K ↔ K (.int k (min a b)) := xP_of fun w => by
  simp only [sB, builtin, Builtin.min_, List.foldlM, Builtin.min2, Sem.run_bind, Sem.run_pure, Result.andThen_ok]
  congr 3
  rw [Int.min_def]
  split <;> split <;> omega
end
end Go.X

/-! XMem -/
namespace Go.X
set_option linter.unusedSimpArgs false
set_option linter.unusedVariables false
open Go Go.RowKit

/-! ## Memory -/
/-- Outside the blocks M all that was there is as it was. -/
structure Kept (M : List Nat) (w w' : World) : Prop where
  os : w'.os = w.os
  tape : w'.tape = w.tape
  output : w'.output = w.output
  size : w.heap.size ≤ w'.heap.size
  block : ∀ k, k < w.heap.size → k ∉ M → w'.heap[k]? = w.heap[k]?

theorem Kept.refl (M : List Nat) (w : World) : Kept M w w := ⟨rfl, rfl, rfl, Nat.le_refl _, fun _ _ _ => rfl⟩
theorem Kept.trans {M M' N : List Nat} {a b c : World} (h : Kept M a b) (h' : Kept M' b c) (hM : ∀ k ∈ M, k ∈ N ∨ a.heap.size ≤ k) (hM' : ∀ k ∈ M', k ∈ N ∨ a.heap.size ≤ k) : Kept N a c :=
  ⟨h'.os.trans h.os, h'.tape.trans h.tape, h'.output.trans h.output, Nat.le_trans h.size h'.size, fun k hk hn => by
    have h1 : k ∉ M := fun hm => (hM k hm).elim hn (fun hh => by omega)
    have h2 : k ∉ M' := fun hm => (hM' k hm).elim hn (fun hh => by omega)
    exact (h'.block k (Nat.lt_of_lt_of_le hk h.size) h2).trans (h.block k hk h1)⟩
theorem Kept.mono {M N : List Nat} {a b : World} (h : Kept M a b) (hM : ∀ k ∈ M, k ∈ N ∨ a.heap.size ≤ k) : Kept N a b :=
  (h.trans (Kept.refl [] b) hM (by simp))
theorem Kept.then {M N : List Nat} {a b c : World} (h : Kept N a b) (h' : Kept M b c) (hM : ∀ k ∈ M, k ∈ N ∨ a.heap.size ≤ k) : Kept N a c :=
  h.trans h' (fun _ hk => .inl hk) hM
theorem Kept.drew {M : List Nat} {a b : World} (h : Kept M a b) : Kept M a b.drew := ⟨h.os, h.tape, h.output, h.size, h.block⟩
theorem kept_drew (M : List Nat) (w : World) : Kept M w w.drew := ⟨rfl, rfl, rfl, Nat.le_refl _, fun _ _ _ => rfl⟩
theorem Kept.of_drew {M : List Nat} {a b : World} (h : Kept M a.drew b) : Kept M a b := ⟨h.os, h.tape, h.output, h.size, h.block⟩
theorem kept_alloc (M : List Nat) (w : World) (o : Obj) : Kept M w (w.alloc o) := ⟨rfl, rfl, rfl, by simp, fun k hk _ => Below.heap_alloc w o k hk⟩
theorem Kept.alloc {M : List Nat} {a b : World} (h : Kept M a b) (o : Obj) : Kept M a (b.alloc o) := h.then (kept_alloc [] b o) (by simp)
theorem kept_setCell (w : World) (a : Addr) (v : Value) : Kept [a.block] w (w.setCell a v) :=
  ⟨rfl, rfl, rfl, by simp, fun k _ hn => heap_setCell_other w a k v (by simpa using hn)⟩
theorem Kept.setCell {M : List Nat} {a b : World} (h : Kept M a b) (p : Addr) (v : Value) (hp : p.block ∈ M ∨ a.heap.size ≤ p.block) : Kept M a (b.setCell p v) :=
  h.then (kept_setCell b p v) (by simpa using hp)
theorem Kept.below {w w' : World} (h : Kept [] w w') : Below w.heap.size w w' := ⟨h.os, h.tape, h.output, h.size, fun k hk => h.block k hk (by simp)⟩
theorem kept_of_below {w w' : World} (h : Below w.heap.size w w') : Kept [] w w' := ⟨h.os, h.tape, h.output, h.size, fun k hk _ => h.block k hk⟩
theorem kept_of_grown {w w' : World} {r : Option Nat} (h : w.grownBy w' r) : Kept r.toList w w' :=
  ⟨h.os, h.tape, h.output, h.size, fun k hk hn => h.block k hk (by cases r <;> simp_all)⟩

/-- Block b holds the cells l, of type T; nothing of it is frozen. -/
def Blk (w : World) (b : Nat) (T : TypeId) (l : List Value) : Prop := w.heap[b]? = some (.cells l.toArray T (0, 0))
theorem Blk.lt {w : World} {b : Nat} {T : TypeId} {l : List Value} (h : Blk w b T l) : b < w.heap.size := (Array.getElem?_eq_some_iff.1 h).1
theorem Blk.kept {w w' : World} {M : List Nat} {b : Nat} {T : TypeId} {l : List Value} (h : Blk w b T l) (hk : Kept M w w') (hb : b ∉ M) : Blk w' b T l :=
  (hk.block b h.lt hb).trans h
theorem blk_alloc (w : World) (T : TypeId) (l : List Value) : Blk (w.alloc (.cells l.toArray T)) w.heap.size T l := heap_alloc_new w _
theorem Blk.set {w : World} {b o : Nat} {T : TypeId} {l : List Value} (h : Blk w b T l) (v : Value) : Blk (w.setCell ⟨b, o, none⟩ v) b T (l.set o v) := by
  unfold Blk at *
  rw [heap_setCell_same w b o _ T v h]
  simp
theorem Blk.cell {w : World} {b o : Nat} {T : TypeId} {l : List Value} (h : Blk w b T l) : w.cell? ⟨b, o, none⟩ = l[o]? := by
  rw [cell_of_row w b o _ T _ h]; simp
theorem Blk.frozen {w : World} {b o : Nat} {T : TypeId} {l : List Value} (h : Blk w b T l) : w.frozen? ⟨b, o, none⟩ = false := frozen_of_row w b o _ T h

/-- The cells l lie at place o of block b. -/
def At (w : World) (b o : Nat) (l : List Value) : Prop := ∀ j, j < l.length → w.cell? ⟨b, o + j, none⟩ = l[j]?
theorem At.kept {w w' : World} {M : List Nat} {b o : Nat} {l : List Value} (h : At w b o l) (hk : Kept M w w') (hb : b ∉ M) : At w' b o l := by
  intro j hj
  have hc := h j hj
  rw [List.getElem?_eq_getElem hj] at hc ⊢
  have hlt : b < w.heap.size := by simpa using block_lt_of_cell hc
  rw [← hc]
  exact World.cell?_of_block (w := w) (hk.block b hlt hb)
theorem At.sub {w : World} {b o : Nat} {l : List Value} (h : At w b o l) (i n : Nat) : At w b (o + i) ((l.drop i).take n) := by
  intro j hj
  simp only [List.length_take, List.length_drop] at hj
  have := h (i + j) (by omega)
  rw [List.getElem?_take_of_lt (by omega), List.getElem?_drop, ← this, Nat.add_assoc]
theorem At.take {w : World} {b o : Nat} {l : List Value} (h : At w b o l) (n : Nat) : At w b o (l.take n) := by
  simpa using h.sub 0 n
theorem At.drop {w : World} {b o : Nat} {l : List Value} (h : At w b o l) (i : Nat) : At w b (o + i) (l.drop i) := by
  have := h.sub i l.length
  rwa [List.take_of_length_le (by simp)] at this
theorem At.nil (w : World) (b o : Nat) : At w b o [] := fun j hj => by simp at hj
theorem Blk.at {w : World} {b : Nat} {T : TypeId} {l : List Value} (h : Blk w b T l) : At w b 0 l := fun j _ => by rw [Nat.zero_add]; exact h.cell
theorem at_drew {w : World} {b o : Nat} {l : List Value} (h : At w b o l) : At w.drew b o l := h
theorem blk_drew {w : World} {b : Nat} {T : TypeId} {l : List Value} (h : Blk w b T l) : Blk w.drew b T l := h

/-! ### Types -/
def oneB (P : Program) (T : TypeId) : Bool := match P.underlying T, P.info? T with
  | some (.struct _), _ => false
  | some (.array ..), _ => false
  | some _, some i => Nat.beq i.size 1
  | _, _ => false
def aggB (P : Program) (T : TypeId) (n : Nat) : Bool := match P.underlying T, P.info? T with
  | some (.struct _), some i => Nat.beq i.size n
  | some (.array ..), some i => Nat.beq i.size n
  | _, _ => false
def sliceB (P : Program) (T E : TypeId) : Bool := match P.underlying T with
  | some (.slice e) => Nat.beq e E
  | _ => false
def sizeB (P : Program) (T : TypeId) (n : Nat) : Bool := match P.info? T with
  | some i => Nat.beq i.size n
  | none => false
def bytesB (P : Program) (T : TypeId) (n : Nat) : Bool := match P.info? T with
  | some i => Nat.beq i.bytes n
  | none => false
theorem sliceB_spec {P : Program} {T E : TypeId} (h : sliceB P T E = true) : P.underlying T = some (.slice E) := by
  unfold sliceB at h
  split at h
  · rename_i e he; rw [he, Nat.eq_of_beq_eq_true h]
  · cases h
theorem sizeB_spec {P : Program} {T : TypeId} {n : Nat} (h : sizeB P T n = true) : ∃ i, P.info? T = some i ∧ i.size = n := by
  unfold sizeB at h
  split at h
  · rename_i i hi; exact ⟨i, hi, Nat.eq_of_beq_eq_true h⟩
  · cases h
theorem bytesB_spec {P : Program} {T : TypeId} {n : Nat} (h : bytesB P T n = true) : ∃ i, P.info? T = some i ∧ i.bytes = n := by
  unfold bytesB at h
  split at h
  · rename_i i hi; exact ⟨i, hi, Nat.eq_of_beq_eq_true h⟩
  · cases h

section
variable {P : Program} {w : World} {T : TypeId}
theorem isAgg_one (h : oneB P T = true) : (isAgg T).run P w = .ok false w := by
  unfold oneB at h
  unfold isAgg underlying
  cases hu : P.underlying T with
  | none => rw [hu] at h; simp at h
  | some d =>
    rw [hu] at h
    simp only [Sem.run_bind, run_program, Result.andThen_ok, hu]
    cases d <;> first | rfl | simp at h
theorem isAgg_agg {n : Nat} (h : aggB P T n = true) : (isAgg T).run P w = .ok true w := by
  unfold aggB at h
  unfold isAgg underlying
  cases hu : P.underlying T with
  | none => rw [hu] at h; simp at h
  | some d =>
    rw [hu] at h
    simp only [Sem.run_bind, run_program, Result.andThen_ok, hu]
    cases d <;> first | rfl | (cases hi : P.info? T <;> rw [hi] at h <;> simp at h)
theorem sizeOf_run {n : Nat} {i : TypeInfo} (hi : P.info? T = some i) (hs : i.size = n) : (sizeOf T).run P w = .ok n w := by
  unfold sizeOf typeInfo
  simp [hi, hs]
theorem oneB_size (h : oneB P T = true) : ∃ i, P.info? T = some i ∧ i.size = 1 := by
  unfold oneB at h
  cases hi : P.info? T with
  | none => rw [hi] at h; split at h <;> simp_all
  | some i => rw [hi] at h; exact ⟨i, rfl, by split at h <;> simp_all⟩
theorem aggB_size {n : Nat} (h : aggB P T n = true) : ∃ i, P.info? T = some i ∧ i.size = n := by
  unfold aggB at h
  split at h
  · rename_i i _ hi; exact ⟨i, hi, Nat.eq_of_beq_eq_true h⟩
  · rename_i i _ hi; exact ⟨i, hi, Nat.eq_of_beq_eq_true h⟩
  · cases h

/-! ### Loads -/
theorem load1 (h : oneB P T = true) {a : Addr} {v : Value} (hc : w.cell? a = some v) : (sLoad T (.pointer (some a))).run P w = .ok (.value v) w := by
  unfold sLoad
  rw [run_value]
  simp only [Instr.loadAt, Instr.sureAddr, pure_bind, loadVar, Sem.run_bind, isAgg_one h, Result.andThen_ok, Bool.false_eq_true, if_false, run_load, hc]

theorem loadCells_run (b : Nat) : ∀ (l : List Value) (o i : Nat) (acc : Array Value), (∀ j, j < l.length → w.cell? ((⟨b, o, none⟩ : Addr).add (i + j)) = l[j]?) →
    (loadCellsFrom ⟨b, o, none⟩ i l.length acc).run P w = .ok (acc ++ l.toArray) w := by
  intro l
  induction l with
  | nil => intro o i acc _; simp [loadCellsFrom]
  | cons v l ih =>
    intro o i acc h
    have h0 := h 0 (by simp)
    simp only [Nat.add_zero, List.getElem?_cons_zero] at h0
    simp only [List.length_cons, loadCellsFrom, Sem.run_bind, run_load, h0, Result.andThen_ok]
    rw [ih o (i + 1) (acc.push v) (fun j hj => by
      have := h (j + 1) (by simpa using hj)
      rw [show i + 1 + j = i + (j + 1) by omega]
      simpa using this)]
    simp

theorem add_none (b o j : Nat) : (⟨b, o, none⟩ : Addr).add j = ⟨b, o + j, none⟩ := by
  unfold Addr.add
  split
  · rename_i h; subst h; rfl
  · rfl

theorem loadN {b o : Nat} {l : List Value} (h : aggB P T l.length = true) (hc : At w b o l) : (sLoad T (.pointer (some ⟨b, o, none⟩))).run P w = .ok (.value (.agg l.toArray)) w := by
  obtain ⟨i, hi, hs⟩ := aggB_size h
  unfold sLoad
  rw [run_value]
  simp only [Instr.loadAt, Instr.sureAddr, pure_bind, loadVar, Sem.run_bind, isAgg_agg h, Result.andThen_ok, if_true, sizeOf_run hi hs, loadCells]
  rw [loadCells_run b l o 0 #[] (fun j hj => by rw [add_none, Nat.zero_add]; exact hc j hj)]
  simp

/-! ### Stores -/
theorem storeCells_run (b o : Nat) (T' : TypeId) : ∀ (vs l1 l2 l3 : List Value) (w : World) (i : Nat), Blk w b T' (l1 ++ l2 ++ l3) → l2.length = vs.length → (∀ v ∈ vs, v.oneCell' = true) → l1.length = o + i →
    ∃ w', (storeCells ⟨b, o, none⟩ vs i).run P w = .ok () w' ∧ Blk w' b T' (l1 ++ vs ++ l3) ∧ Kept [b] w w' ∧ w'.heap.size = w.heap.size := by
  intro vs
  induction vs with
  | nil =>
    intro l1 l2 l3 w i hb hl _ _
    have : l2 = [] := List.eq_nil_of_length_eq_zero (by simpa using hl)
    subst this
    exact ⟨w, rfl, hb, Kept.refl _ _, rfl⟩
  | cons v vs ih =>
    intro l1 l2 l3 w i hb hl h1 ho
    obtain ⟨u, l2, rfl⟩ : ∃ u l, l2 = u :: l := by
      cases l2 with
      | nil => simp at hl
      | cons u l => exact ⟨u, l, rfl⟩
    have hcell : w.cell? ⟨b, o + i, none⟩ = some u := by
      rw [hb.cell, ← ho]
      simp
    have hset := hb.set (o := o + i) v
    have hl' : (l1 ++ u :: l2 ++ l3).set (o + i) v = (l1 ++ [v]) ++ l2 ++ l3 := by
      rw [← ho]
      simp
    rw [hl'] at hset
    obtain ⟨w', hrun, hb', hk, hsz⟩ := ih (l1 ++ [v]) l2 l3 _ (i + 1) hset (by simpa using hl) (fun x hx => h1 x (List.mem_cons_of_mem _ hx)) (by simp [ho]; omega)
    refine ⟨w', ?_, by simpa using hb', ?_, by rw [hsz]; simp⟩
    · simp only [storeCells, Sem.run_bind, add_none]
      rw [run_store P w _ v .plain (h1 v List.mem_cons_self)]
      simp only [hcell, hb.frozen, Bool.false_eq_true, if_false, Result.andThen_ok]
      exact hrun
    · exact (kept_setCell w ⟨b, o + i, none⟩ v).then hk (by simp)

theorem cells_one {v : Value} (h : v.oneCell' = true) : v.cells = #[v] := by cases v <;> first | rfl | simp [Value.oneCell'] at h

/-- A store of a whole value over the cells l2 of a block. -/
theorem storeVar_run {b o : Nat} {T' : TypeId} {v : Value} {l1 l2 l3 : List Value} {n : Nat} (hsz : sizeB P T n = true) (hb : Blk w b T' (l1 ++ l2 ++ l3)) (ho : l1.length = o) (hl : l2.length = n)
    (hv : v.cells.size = n) (h1 : ∀ u ∈ v.cells.toList, u.oneCell' = true) :
    ∃ w', (sStore T (.pointer (some ⟨b, o, none⟩)) v).run P w = .ok .skip w' ∧ Blk w' b T' (l1 ++ v.cells.toList ++ l3) ∧ Kept [b] w w' ∧ w'.heap.size = w.heap.size := by
  obtain ⟨i, hi, hs⟩ := sizeB_spec hsz
  obtain ⟨w', h1, h2, h3, h4⟩ := storeCells_run (P := P) b o T' v.cells.toList l1 l2 l3 w 0 hb (by simp [hl, hv]) h1 (by omega)
  refine ⟨w', ?_, h2, h3, h4⟩
  unfold sStore
  simp only [Instr.storeAt, Instr.sureAddr, pure_bind, storeVar, Sem.run_bind, sizeOf_run hi hs, Result.andThen_ok, hv, ne_eq, not_true_eq_false, if_false]
  rw [h1]
  rfl

theorem xE_storeN {K : Value → World → Prop} {b o : Nat} {T' : TypeId} {v : Value} {l1 l2 l3 : List Value} {n : Nat} (hsz : sizeB P T n = true) (hb : Blk w b T' (l1 ++ l2 ++ l3)) (ho : l1.length = o) (hl : l2.length = n)
    (hv : v.cells.size = n) (h1 : ∀ u ∈ v.cells.toList, u.oneCell' = true)
    (k : ∀ w', Blk w' b T' (l1 ++ v.cells.toList ++ l3) → Kept [b] w w' → w'.heap.size = w.heap.size → K undef w') : xE P (sStore T (.pointer (some ⟨b, o, none⟩)) v) w K := by
  obtain ⟨w', hr, h2, h3, h4⟩ := storeVar_run (P := P) hsz hb ho hl hv h1
  exact (xE_skip hr).2 (k w' h2 h3 h4)

/-- A store of one cell. -/
theorem xE_store1 {K : Value → World → Prop} {b o : Nat} {T' : TypeId} {v : Value} {l : List Value} (hsz : sizeB P T 1 = true) (hb : Blk w b T' l) (ho : o < l.length) (h1 : v.oneCell' = true)
    (k : ∀ w', Blk w' b T' (l.set o v) → Kept [b] w w' → w'.heap.size = w.heap.size → K undef w') : xE P (sStore T (.pointer (some ⟨b, o, none⟩)) v) w K := by
  have hl : l = l.take o ++ [l[o]] ++ l.drop (o + 1) := by simp
  refine xE_storeN (l1 := l.take o) (l2 := [l[o]]) (l3 := l.drop (o + 1)) hsz (hl ▸ hb) (by simp; omega) rfl (by rw [cells_one h1]; rfl) (by rw [cells_one h1]; simpa using h1) (fun w' hb' => ?_)
  rw [cells_one h1] at hb'
  rw [show l.take o ++ #[v].toList ++ l.drop (o + 1) = l.set o v by rw [List.set_eq_take_append_cons_drop, if_pos ho]; simp] at hb'
  exact k w' hb'

/-! ### New blocks -/
theorem xE_box {K : Value → World → Prop} {v : Value} (k : ∀ w', Blk w' w.heap.size T v.cells.toList → Kept [] w w' → w'.heap.size = w.heap.size + 1 → K (.pointer (some ⟨w.heap.size, 0, none⟩)) w') : xE P (sBox T v) w K := by
  refine (xE_of (v := .pointer (some ⟨w.heap.size, 0, none⟩)) (w' := w.alloc (.cells v.cells T)) ?_).2 (k _ (blk_alloc w T v.cells.toList) (kept_alloc _ _ _) (by simp))
  unfold sBox
  rw [run_value]
  rfl
def zeroB (P : Program) (T : TypeId) (z : Value) : Prop := (P.info? T).map (·.zero) = some (some z)
theorem zero_run {z : Value} (hz : zeroB P T z) : (zeroValue T).run P w = .ok z w := by
  unfold zeroB at hz
  cases hi : P.info? T with
  | none => rw [hi] at hz; simp at hz
  | some i =>
    rw [hi] at hz
    simp at hz
    unfold zeroValue typeInfo
    simp [hi, hz]
theorem xE_alloc {K : Value → World → Prop} {z : Value} (hz : zeroB P T z)
    (k : ∀ w', Blk w' w.heap.size T z.cells.toList → Kept [] w w' → w'.heap.size = w.heap.size + 1 → K (.pointer (some ⟨w.heap.size, 0, none⟩)) w') : xE P (sAlloc T) w K := by
  refine (xE_of (v := .pointer (some ⟨w.heap.size, 0, none⟩)) (w' := w.alloc (.cells z.cells T)) ?_).2 (k _ (blk_alloc w T z.cells.toList) (kept_alloc _ _ _) (by simp))
  unfold sAlloc
  rw [run_value]
  simp only [Instr.alloc, Sem.run_bind, zero_run hz, Result.andThen_ok]
  rfl

/-! ### Addresses -/
def fieldB (P : Program) (T : TypeId) (f off : Nat) : Bool := match P.underlying T with
  | some (.struct fs) => match fs[f]? with
    | some x => Nat.beq x.offset off && (match P.info? x.type with | some i => !Nat.beq i.size 0 | none => false)
    | none => false
  | _ => false
theorem xP_FA {K : Value → Prop} {b o f off : Nat} (h : fieldB P T f off = true) : xP P (sFA T (.pointer (some ⟨b, o, none⟩)) f) K ↔ K (.pointer (some ⟨b, o + off, none⟩)) := by
  refine xP_of fun w => ?_
  unfold fieldB at h
  split at h
  · rename_i fs hu
    split at h
    · rename_i x hx
      simp only [Bool.and_eq_true] at h
      obtain ⟨h1, h2⟩ := h
      split at h2
      · rename_i i hi
        unfold sFA
        rw [run_value]
        have hsz : (sizeOf x.type).run P w = .ok i.size w := sizeOf_run hi rfl
        have hne : ¬ i.size = 0 := by
          intro h0
          rw [h0] at h2
          simp at h2
        simp only [Instr.fieldAt, Sem.run_bind, underlying, run_program, Result.andThen_ok, hu, Sem.run_pure, hx, Instr.sureAddr, fieldPlace, hsz, hne, if_false, add_none, Nat.eq_of_beq_eq_true h1]
      · cases h2
    · cases h
  · cases h

theorem xP_IA {K : Value → Prop} {E : TypeId} {b o n c sz : Nat} {q : IntKind} {i : Int} (h : sliceB P T E = true) (hs : sizeB P E sz = true) (h0 : 0 ≤ i) (h1 : i < n) :
    xP P (sIA T (.slice (some ⟨b, o, none⟩) n c) (.int q i)) K ↔ K (.pointer (some ⟨b, o + i.toNat * sz, none⟩)) := by
  refine xP_of fun w => ?_
  obtain ⟨e, he, hsz⟩ := sizeB_spec hs
  have hu := sliceB_spec h
  unfold sIA
  rw [run_value]
  simp only [Instr.indexAt, asIntOf, Sem.run_bind, underlying, run_program, Result.andThen_ok, hu, Sem.run_pure, pure_bind]
  simp [sizeOf_run he hsz, h0, h1, add_none]
theorem xP_len {K : Value → Prop} {E : TypeId} {a : Option Addr} {n c : Nat} (h : sliceB P T E = true) : xP P (sB .len #[T] #[.slice a n c]) K ↔ K (.int .i64 n) := by
  refine xP_of fun w => ?_
  have hu := sliceB_spec h
  unfold sB
  simp [builtin, Builtin.len_, underlying, hu, goInt]
theorem addr_from {b o sz l c : Nat} : (if c = l then (⟨b, o, none⟩ : Addr) else (⟨b, o, none⟩ : Addr).add (l * sz)) = (if c = l then ⟨b, o, none⟩ else ⟨b, o + l * sz, none⟩) := by
  split <;> simp [add_none]
/-- s[i:] -/
theorem xP_from {K : Value → Prop} {E : TypeId} {a : Option Addr} {n c sz : Nat} {q : IntKind} {i : Int} (h : sliceB P T E = true) (hs : sizeB P E sz = true) (h0 : 0 ≤ i) (h1 : i ≤ n) :
    xP P (sSlice T (.slice a n c) (some (.int q i)) none none) K ↔ K (.slice (if c = i.toNat then a else a.map (·.add (i.toNat * sz))) (n - i.toNat) (c - i.toNat)) := by
  refine xP_of fun w => ?_
  obtain ⟨e, he, hsz⟩ := sizeB_spec hs
  have hu := sliceB_spec h
  unfold sSlice
  rw [run_value]
  simp [Instr.sliceAt, Instr.slice, underlying, hu, Instr.sliceBounds, Instr.sliceBound, asIntOf, h0, h1, sizeOf_run he hsz]
end
end Go.X

/-! XOwn -/
namespace Go.X
set_option linter.unusedSimpArgs false
set_option linter.unusedVariables false
open Go Go.RowKit Go.Great

/-! ## Rows that the call itself owns -/
/-- The slice v, of n elements of type E (sz cells each), owns the cells xs and the room behind them; F: its block, if it has one. -/
def Own (w : World) (E : TypeId) (sz : Nat) (v : Value) (n : Nat) (xs : List Value) (F : List Nat) : Prop :=
  xs.length = n * sz ∧ ((v = .slice none 0 0 ∧ n = 0 ∧ F = []) ∨
    ∃ g o cap cur, v = .slice (some ⟨g, o, none⟩) n cap ∧ F = [g] ∧ Blk w g E cur ∧ n ≤ cap ∧ cap ≤ maxLen ∧ o + cap * sz ≤ cur.length ∧ (cur.drop o).take (n * sz) = xs)

section
variable {w w' : World} {E : TypeId} {sz : Nat} {v : Value} {n : Nat} {xs : List Value} {F : List Nat}
theorem own_nil (w : World) (E : TypeId) (sz : Nat) : Own w E sz (.slice none 0 0) 0 [] [] := ⟨by simp, .inl ⟨rfl, rfl, rfl⟩⟩
theorem Own.lt (h : Own w E sz v n xs F) : ∀ g ∈ F, g < w.heap.size := by
  intro g hg
  rcases h.2 with ⟨_, _, rfl⟩ | ⟨g', _, _, _, _, rfl, hh, _⟩
  · cases hg
  · simp at hg; subst hg; exact hh.lt
theorem Own.kept {M : List Nat} (h : Own w E sz v n xs F) (hk : Kept M w w') (hd : ∀ g ∈ F, g ∉ M) : Own w' E sz v n xs F := by
  refine ⟨h.1, ?_⟩
  rcases h.2 with hn | ⟨g, o, cap, cur, hv, rfl, hh, hr⟩
  · exact .inl hn
  · exact .inr ⟨g, o, cap, cur, hv, rfl, hh.kept hk (hd g (by simp)), hr⟩
theorem Own.slice (h : Own w E sz v n xs F) : ∃ a c, v = .slice a n c ∧ n ≤ c ∧ (xs = [] ∨ ∃ b o, a = some ⟨b, o, none⟩ ∧ F = [b] ∧ At w b o xs) := by
  rcases h.2 with ⟨rfl, rfl, _⟩ | ⟨g, o, cap, cur, rfl, rfl, hh, hn, _, hs, ht⟩
  · exact ⟨none, 0, rfl, Nat.le_refl _, .inl (List.eq_nil_of_length_eq_zero (by simpa using h.1))⟩
  · refine ⟨_, cap, rfl, hn, .inr ⟨g, o, rfl, rfl, ?_⟩⟩
    rw [← ht]
    have := hh.at.sub o (n * sz)
    rwa [Nat.zero_add] at this
theorem Own.addr (h : Own w E sz v n xs F) : ∀ b o m c, v = .slice (some ⟨b, o, none⟩) m c → b ∈ F := by
  intro b o m c hv
  rcases h.2 with ⟨rfl, _⟩ | ⟨g, o', cap, cur, rfl, rfl, _⟩
  · cases hv
  · cases hv; simp
theorem Own.bases (h : Own w E sz v n xs F) : ∀ a m c, v = .slice a m c → a = none ∨ ∃ g o, a = some ⟨g, o, none⟩ ∧ g ∈ F := by
  intro a m c hv
  rcases h.2 with ⟨rfl, _⟩ | ⟨g, o, cap, cur, rfl, rfl, _⟩
  · cases hv; exact .inl rfl
  · cases hv; exact .inr ⟨g, o, rfl, by simp⟩
/-- A row without its first k elements. -/
theorem Own.from (h : Own w E sz v n xs F) {a : Option Addr} {c k : Nat} (hv : v = .slice a n c) (hk : k ≤ n) : Own w E sz (.slice (if c = k then a else a.map (·.add (k * sz))) (n - k) (c - k)) (n - k) (xs.drop (k * sz)) F := by
  refine ⟨by rw [List.length_drop, h.1, Nat.sub_mul], ?_⟩
  rcases h.2 with ⟨rfl, rfl, rfl⟩ | ⟨g, o, cap, cur, rfl, rfl, hh, hn, hm, hs, ht⟩
  · cases hv
    obtain rfl : k = 0 := by omega
    exact .inl ⟨rfl, rfl, rfl⟩
  · cases hv
    right
    by_cases hck : c = k
    · subst hck
      obtain rfl : n = c := by omega
      refine ⟨g, o, 0, cur, by simp, rfl, hh, by omega, by omega, by simp; omega, ?_⟩
      simp
      rw [← ht]
      simp
      omega
    · refine ⟨g, o + k * sz, c - k, cur, by rw [if_neg hck]; simp [add_none], rfl, hh, by omega, by omega, ?_, ?_⟩
      · have : (c - k) * sz + k * sz = c * sz := by rw [← Nat.add_mul, Nat.sub_add_cancel (by omega)]
        omega
      · rw [← ht, List.drop_take, List.drop_drop, Nat.sub_mul]
end

theorem run_sB (P : Program) (s : Sem Value) (w : World) {v : Value} {w' : World} (h : s.run P w = .ok v w') : (do pure (Next.value (← s)) : Sem Next).run P w = .ok (.value v) w' := by
  rw [run_value, h]; rfl

section
variable {P : Program} {w : World} {T E : TypeId} {sz bytes : Nat} {z : Value} {v : Value} {n : Nat} {xs : List Value} {F : List Nat}

structure ElemB (P : Program) (T E : TypeId) (sz bytes : Nat) (z : Value) : Prop where
  sl : sliceB P T E = true
  size : sizeB P E sz = true
  by_ : bytesB P E bytes = true
  zero : zeroB P E z
  zs : z.cells.size = sz
  pos : 0 < sz

theorem ElemB.info (h : ElemB P T E sz bytes z) : P.underlying T = some (.slice E) ∧ ∃ i, P.info? E = some i ∧ i.zero = some z ∧ i.size = sz ∧ i.bytes = bytes := by
  refine ⟨sliceB_spec h.sl, ?_⟩
  obtain ⟨i, hi, hs⟩ := sizeB_spec h.size
  obtain ⟨i', hi', hb⟩ := bytesB_spec h.by_
  have hz := h.zero
  rw [hi] at hi'; cases hi'
  unfold zeroB at hz
  rw [hi] at hz
  exact ⟨i, hi, by simpa using hz, hs, hb⟩

theorem cells_list (l : List Value) : l.toArray.toList = l := rfl

/-- append of m elements to a row of one's own. -/
theorem append_own (he : ElemB P T E sz bytes z) (h : Own w E sz v n xs F) {b o m c : Nat} {news : List Value} (hx : At w b o news) (hl : news.length = m * sz) (h1 : ∀ u ∈ news, u.oneCell' = true)
    (hb : (n + m) * bytes ≤ 140737488355328) (h63 : n + m ≤ maxLen) (hm : 0 < m) :
    ∃ v' w' F', (Builtin.append_ #[T, T] 0 #[v, .slice (some ⟨b, o, none⟩) m c]).run P w = .ok v' w' ∧ Own w' E sz v' (n + m) (xs ++ news) F' ∧ Kept F w w' ∧ (∀ g ∈ F', g ∈ F ∨ (w.heap.size ≤ g ∧ w.heap.size < w'.heap.size)) := by
  obtain ⟨hu, i, hi, hz, hs, hby⟩ := he.info
  have hnews : ∀ j u, news[j]? = some u → w.cell? ((⟨b, o, none⟩ : Addr).add j) = some u := by
    intro j u hj
    rw [add_none, hx j (List.getElem?_eq_some_iff.1 hj).1, hj]
  have hsmall : ((n + m : Nat) : Int) ≤ 9223372036854775807 := by simp only [maxLen] at h63; omega
  have hlen : (xs ++ news).length = (n + m) * sz := by rw [List.length_append, h.1, hl, Nat.add_mul]
  have grown : ∀ (old : Nat), Own (w.drew.alloc (.cells (xs.toArray ++ news.toArray ++ Builtin.zeroCells z.cells (grownCap w (n + m) old E - (n + m))) E)) E sz
        (.slice (some ⟨w.heap.size, 0, none⟩) (n + m) (grownCap w (n + m) old E)) (n + m) (xs ++ news) [w.heap.size] ∧
      Kept F w (w.drew.alloc (.cells (xs.toArray ++ news.toArray ++ Builtin.zeroCells z.cells (grownCap w (n + m) old E - (n + m))) E)) := by
    intro old
    have hge := grownCap_ge w (n + m) old E
    have hcm : grownCap w (n + m) old E ≤ maxLen := grownCap_le_maxLen w (n + m) old E h63
    have hsz := size_zeroCells z.cells (grownCap w (n + m) old E - (n + m))
    rw [he.zs] at hsz
    refine ⟨⟨hlen, .inr ⟨w.heap.size, 0, _, xs ++ news ++ (Builtin.zeroCells z.cells (grownCap w (n + m) old E - (n + m))).toList, rfl, rfl, ?_, hge, hcm, ?_, ?_⟩⟩, (kept_drew F w).alloc _⟩
    · have : (xs.toArray ++ news.toArray ++ Builtin.zeroCells z.cells (grownCap w (n + m) old E - (n + m))) = (xs ++ news ++ (Builtin.zeroCells z.cells (grownCap w (n + m) old E - (n + m))).toList).toArray := by simp
      rw [this]
      exact blk_alloc w.drew E _
    · rw [List.length_append, hlen, Array.length_toList, hsz, Nat.sub_mul]
      have := Nat.mul_le_mul_right sz hge
      omega
    · rw [List.drop_zero, ← hlen]
      exact List.take_left
  rcases h.2 with ⟨rfl, rfl, rfl⟩ | ⟨g, o', cap, cur, rfl, rfl, hg, hnc, hcm, hcs, htake⟩
  · have hx0 : xs = [] := List.eq_nil_of_length_eq_zero (by simpa using h.1)
    subst hx0
    have hr := run_append_nil (P := P) w T 0 E i z hu hi hz ⟨b, o, none⟩ m c news (by rw [hl, hs]) hnews hm (by simpa using hsmall) (by rw [hby]; have := hb; simp only [Nat.zero_add] at this; omega)
    have hgr := grown 0
    simp only [Nat.zero_add] at hgr ⊢
    exact ⟨_, _, _, hr, by simpa using hgr.1, by simpa using hgr.2, fun g hg => .inr ⟨by simp at hg; omega, by simp⟩⟩
  · by_cases hroom : n + m ≤ cap
    · have hmul : (n + m) * sz ≤ cap * sz := Nat.mul_le_mul_right _ hroom
      have hxl := h.1
      have hsplit : cur = cur.take (o' + n * sz) ++ (cur.drop (o' + n * sz)).take (m * sz) ++ cur.drop (o' + (n + m) * sz) := by
        rw [Nat.add_mul, ← Nat.add_assoc, ← List.drop_drop (i := m * sz), List.append_assoc, List.take_append_drop, List.take_append_drop]
      have hll : ((cur.drop (o' + n * sz)).take (m * sz)).length = m * sz := by
        rw [List.length_take, List.length_drop]
        rw [Nat.add_mul] at hmul
        omega
      obtain ⟨w', hst, hb', hk', hsz'⟩ := storeCells_run (P := P) g (o' + n * sz) E news (cur.take (o' + n * sz)) ((cur.drop (o' + n * sz)).take (m * sz)) (cur.drop (o' + (n + m) * sz)) w 0 (hsplit ▸ hg) (by rw [hll, hl]) h1 (by rw [List.length_take]; rw [Nat.add_mul] at hmul; omega)
      have hf := run_firstCells_some (P := P) w i.size m ⟨b, o, none⟩ m c news (by rw [hl, hs]) hnews
      have hrun : (Builtin.append_ #[T, T] 0 #[.slice (some ⟨g, o', none⟩) n cap, .slice (some ⟨b, o, none⟩) m c]).run P w = .ok (.slice (some ⟨g, o', none⟩) (n + m) cap) w' := by
        rw [← hs] at hst
        simp [Builtin.append_, run_underlying hu, sizeOf, typeInfo, hi, Builtin.lenOf, hroom, hf, add_none, hst]
      have hc1 : (cur.take (o' + n * sz)).length = o' + n * sz := by rw [List.length_take]; rw [Nat.add_mul] at hmul; omega
      refine ⟨_, _, [g], hrun, ⟨hlen, .inr ⟨g, o', cap, _, rfl, rfl, hb', hroom, hcm, ?_, ?_⟩⟩, hk', fun g' hg' => .inl hg'⟩
      · rw [List.length_append, List.length_append, hc1, hl, List.length_drop]
        rw [Nat.add_mul] at hmul ⊢
        omega
      · rw [List.append_assoc, List.drop_append_of_le_length (by omega), List.drop_take, Nat.add_sub_cancel_left, htake, ← List.append_assoc, ← hlen]
        exact List.take_left
    · have holds : ∀ j u, xs[j]? = some u → w.cell? ((⟨g, o', none⟩ : Addr).add j) = some u := by
        intro j u hj
        have hat := hg.at.sub o' (n * sz)
        rw [htake, Nat.zero_add] at hat
        rw [add_none, hat j (List.getElem?_eq_some_iff.1 hj).1, hj]
      have hr := run_append_grow (P := P) w T 0 E i z hu hi hz ⟨g, o', none⟩ n cap xs (by rw [h.1, hs]) holds ⟨b, o, none⟩ m c news (by rw [hl, hs]) hnews (by omega) hsmall
        (growslice_fits (by omega) (by rw [hby]; exact hb))
      have hgr := grown cap
      exact ⟨_, _, _, hr, hgr.1, hgr.2, fun g' hg' => .inr ⟨by simp at hg'; omega, by simp⟩⟩

theorem xE_append {K : Value → World → Prop} (he : ElemB P T E sz bytes z) (h : Own w E sz v n xs F) {b o m c : Nat} {news : List Value} (hx : At w b o news) (hl : news.length = m * sz) (h1 : ∀ u ∈ news, u.oneCell' = true)
    (hb : (n + m) * bytes ≤ 140737488355328) (h63 : n + m ≤ maxLen) (hm : 0 < m)
    (k : ∀ v' w' F', Own w' E sz v' (n + m) (xs ++ news) F' → Kept F w w' → (∀ g ∈ F', g ∈ F ∨ w.heap.size ≤ g) → v'.oneCell' = true → K v' w') :
    xE P (sB .append #[T, T] #[v, .slice (some ⟨b, o, none⟩) m c]) w K := by
  obtain ⟨v', w', F', hr, ho, hk, hf⟩ := append_own (P := P) he h hx hl h1 hb h63 hm
  refine (xE_of (v := v') (w' := w') ?_).2 (k v' w' F' ho hk (fun g hg => (hf g hg).imp id (·.1)) ?_)
  · show (do pure (Next.value (← Builtin.append_ #[T, T] 0 #[v, .slice (some ⟨b, o, none⟩) m c])) : Sem Next).run P w = _
    exact run_sB P _ w hr
  · rcases ho.2 with ⟨rfl, _⟩ | ⟨_, _, _, _, rfl, _⟩ <;> rfl

/-- A slice written out. -/
theorem xE_buildSlice {K : Value → World → Prop} (he : ElemB P T E sz bytes z) {len : Nat} {parts : Array (Nat × Value)} (vs : List Value) (hp : parts.toList = (vs.zipIdx).map fun p => (p.2, p.1)) (hlen : vs.length = len) (hv : ∀ v ∈ vs, v.cells.size = sz)
    (hpos : 0 < len) (hsm : len * sz ≤ 16777216) (k : ∀ w', Blk w' w.heap.size E (vs.flatMap fun v => v.cells.toList) → Kept [] w w' → w'.heap.size = w.heap.size + 1 → K (.slice (some ⟨w.heap.size, 0, none⟩) len len) w') :
    xE P (sBuildSlice T len parts) w K := by
  obtain ⟨hu, i, hi, hz, hs, hby⟩ := he.info
  have hf := fill_whole he.pos vs ((Array.range (len * sz)).map (z.cells[· % z.cells.size]!)) hv (by simp [hlen])
  have hr := run_buildSlice (P := P) w T E len parts _ i z hu hi hz (by rw [hs]; omega) (by rw [hs]; have := Nat.mul_pos hpos he.pos; omega) (by rw [hs, hp]; exact hf)
  refine (xE_of (v := .slice (some ⟨w.heap.size, 0, none⟩) len len) (w' := w.alloc (.cells (vs.flatMap fun v => v.cells.toList).toArray E)) ?_).2 (k _ (blk_alloc _ _ _) (kept_alloc _ _ _) (by simp))
  unfold sBuildSlice
  exact run_sB P _ w hr
theorem xP_build {K : Value → Prop} {parts : Array (Nat × Value)} {cells : Array Value} (h : P.built T parts.toList = some cells) : xP P (sBuild T parts) K ↔ K (.agg cells) :=
  xP_of fun w => run_sB P _ w (run_build w T parts cells h)

/-! ## Calls -/
/-- The call returns a value for which Q holds. -/
def Gives (P : Program) (f : FuncId) (args : Array Value) (w : World) (Q : Value → World → Prop) : Prop := Calls P f args w (Ret Q)
def calleeB (P : Program) (f : FuncId) : Bool := match P.funcs[f]? with
  | some fn => fn.body.isSome && !(fn.name == "runtime.NumGoroutine")
  | none => false
theorem callFunc_run {f : FuncId} (h : calleeB P f = true) (args : Array Value) : (callFunc f args).run P w = .ok (.enter f args) w := by
  unfold calleeB at h
  split at h
  · rename_i fn hf
    simp only [Bool.and_eq_true, Bool.not_eq_true'] at h
    have hb : fn.body.isNone = false := by simp [Option.isNone_eq_false_iff, h.1]
    unfold callFunc
    simp only [Sem.run_bind, run_program, Result.andThen_ok, hf, h.2, hb, Bool.false_eq_true, if_false, Sem.run_pure]
  · cases h
theorem xE_call {f : FuncId} {args : Array Value} {K Q : Value → World → Prop} (h : calleeB P f = true) (hc : Gives P f args w Q) (k : ∀ v w', Q v w' → K v w') : xE P (sCall f args) w K := by
  unfold xE
  have : (sCall f args).run P w = .ok (.enter f args) w := by
    have e : sCall f args = callFunc f ((#[] ++ args) ++ #[]) := rfl
    rw [e, callFunc_run h]
    simp
  rw [this]
  exact Calls.mono hc (fun e w' he => by cases e <;> first | exact k _ _ he | exact he.elim)
theorem xE_callV {f : FuncId} {first args cap : Array Value} {K Q : Value → World → Prop} (h : calleeB P f = true) (hc : Gives P f (first ++ args ++ cap) w Q) (k : ∀ v w', Q v w' → K v w') : xE P (sCallV (.func (.func f) first cap) args) w K := by
  unfold xE
  have : (sCallV (.func (.func f) first cap) args).run P w = .ok (.enter f (first ++ args ++ cap)) w := by
    have e : sCallV (.func (.func f) first cap) args = callFunc f ((first ++ args) ++ cap) := rfl
    rw [e, callFunc_run h]
  rw [this]
  exact Calls.mono hc (fun e w' he => by cases e <;> first | exact k _ _ he | exact he.elim)
theorem Gives.mono {f : FuncId} {args : Array Value} {Q Q' : Value → World → Prop} (h : Gives P f args w Q) (k : ∀ v w', Q v w' → Q' v w') : Gives P f args w Q' :=
  Calls.mono h (fun e w' he => by cases e <;> first | exact k _ _ he | exact he.elim)

/-! ## Ways that meet, and rounds -/
theorem xJoin_one {b1 : (List Value → World → Prop) → Prop} {b2 : List Value → Env → World → Prop} (h : b1 (fun vs w => ∀ junk, b2 vs junk w)) : xJoin b1 b2 := ⟨_, h, fun _ junk _ hv => hv junk⟩
theorem xJoin_of {b1 : (List Value → World → Prop) → Prop} {b2 : List Value → Env → World → Prop} (J : List Value → World → Prop) (h1 : b1 J) (h2 : ∀ vs junk w, J vs w → b2 vs junk w) : xJoin b1 b2 := ⟨J, h1, h2⟩
theorem xLoop_of {vs0 : List Value} {w0 : World} {body : (List Value → World → Prop) → List Value → Env → World → Prop} (I : List Value → World → Prop) (μ : List Value → World → Nat) (h0 : I vs0 w0)
    (h : ∀ vs junk w, I vs w → body (fun vs' w' => I vs' w' ∧ μ vs' w' < μ vs w) vs junk w) : xLoop vs0 w0 body := ⟨I, μ, h0, h⟩

theorem ld1 {K : Value → Prop} (h : oneB P T = true) {a : Addr} {v : Value} (hc : w.cell? a = some v) : xR P (sLoad T (.pointer (some a))) w K ↔ K v := xR_of (load1 h hc)
theorem ldN {K : Value → Prop} {b o : Nat} {l : List Value} (h : aggB P T l.length = true) (hc : At w b o l) : xR P (sLoad T (.pointer (some ⟨b, o, none⟩))) w K ↔ K (.agg l.toArray) := xR_of (loadN h hc)
theorem still1 {B : Prop} (h : oneB P T = true) {a : Addr} {v : Value} (hc : w.cell? a = some v) : xStill P (sLoad T (.pointer (some a))) v w B ↔ B := xStill_of (load1 h hc)
theorem stillN {B : Prop} {b o : Nat} {l : List Value} (h : aggB P T l.length = true) (hc : At w b o l) : xStill P (sLoad T (.pointer (some ⟨b, o, none⟩))) (.agg l.toArray) w B ↔ B := xStill_of (loadN h hc)

theorem xP_IAn {K : Value → Prop} {E : TypeId} {b o n c sz i : Nat} {q : IntKind} (h : sliceB P T E = true) (hs : sizeB P E sz = true) (h1 : i < n) :
    xP P (sIA T (.slice (some ⟨b, o, none⟩) n c) (.int q i)) K ↔ K (.pointer (some ⟨b, o + i * sz, none⟩)) := by
  have := xP_IA (K := K) (b := b) (o := o) (n := n) (c := c) (q := q) (i := (i : Int)) h hs (by omega) (by omega)
  rwa [Int.toNat_natCast] at this
theorem at_one {b o : Nat} {v : Value} (h : At w b o [v]) : w.cell? ⟨b, o, none⟩ = some v := h 0 (by simp)

def intB (P : Program) (T : TypeId) (k : IntKind) : Prop := P.underlying T = some (.int k)
theorem xP_conv {K : Value → Prop} {s d : TypeId} {k k' : IntKind} {n : Int} (hs : intB P s k) (hd : intB P d k') : xP P (sConv s d (.int k n)) K ↔ K (.int k' (k'.wrap n)) :=
  xP_of fun w => by
    unfold intB at hs hd
    unfold sConv
    rw [run_value]
    simp [convert, underlying, hs, hd, Conv.intToInt]
theorem xP_shr {K : Value → Prop} {k yk : IntKind} {x y : Int} (h0 : 0 ≤ y) : xP P (sBin .shr T (.int k x) (.int yk y)) K ↔ K (.int k (x / 2 ^ min y.toNat k.bits)) :=
  xP_of fun w => by
    unfold sBin
    rw [run_value]
    simp [binOp, shift_shr_any k yk x y h0]
theorem xP_shl {K : Value → Prop} {k yk : IntKind} {x y : Int} (h0 : 0 ≤ y) : xP P (sBin .shl T (.int k x) (.int yk y)) K ↔ K (.int k (k.wrap (x * 2 ^ min y.toNat k.bits))) :=
  xP_of fun w => by
    unfold sBin
    rw [run_value]
    simp [binOp, shift_shl_any k yk x y h0]
theorem wrapU64 {x : Int} (h1 : 0 ≤ x) (h2 : x ≤ 18446744073709551615) : IntKind.u64.wrap x = x := by
  simp only [IntKind.wrap, IntKind.bits, IntKind.signed]
  simp
  omega

def ptrB (P : Program) (T : TypeId) : Prop := P.underlying T = some (.pointer (P.pointee T))
theorem xR_pnil {K : Value → Prop} {p : Option Addr} {c : Bool} (h : ptrB P T) : xR P (sEq .eql T c (.pointer p) (.pointer none)) w K ↔ K (.bool p.isNone) :=
  xR_of (by
    unfold sEq
    rw [run_value]
    have : eqGuard .eql T (bif c then .const undef else .tmp 0) (.tmp 0) (.pointer p) (.pointer none) = pure () := by cases c <;> rfl
    rw [this]
    simp only [pure_bind]
    rw [run_eql_pointer_nil w T p h]
    rfl)
def fieldOneB (P : Program) (T : TypeId) (f off : Nat) : Bool := match P.underlying T with
  | some (.struct fs) => match fs[f]? with
    | some x => Nat.beq x.offset off && oneB P x.type
    | none => false
  | _ => false
theorem xP_field {K : Value → Prop} {f off : Nat} {cs : Array Value} {v : Value} (h : fieldOneB P T f off = true) (hv : cs[off]? = some v) : xP P (sField T (.agg cs) f) K ↔ K v := by
  refine xP_of fun w => ?_
  unfold fieldOneB at h
  split at h
  · rename_i fs hu
    split at h
    · rename_i x hx
      simp only [Bool.and_eq_true] at h
      unfold sField
      rw [run_value]
      have ho := Nat.eq_of_beq_eq_true h.1
      simp only [Instr.field, Sem.run_bind, underlying, run_program, Result.andThen_ok, hu, Sem.run_pure, hx, asAgg, pure_bind, part, isAgg_one h.2, Bool.false_eq_true, if_false, ho, hv]
    · cases h
  · cases h

theorem Gives.law {f : FuncId} {args : Array Value} (h : Gives P f args w fun v w' => v = .bool true ∧ Kept [] w w') : Calls P f args w fun e w' => e = .returned (.bool true) ∧ Below w.heap.size w w' :=
  Calls.mono h (fun e w' he => by
    cases e with
    | returned v => exact ⟨by rw [he.1], he.2.below⟩
    | panicked _ => exact he.elim
    | outgrown => exact he.elim)

theorem wrap64 {x : Int} (h1 : -9223372036854775808 ≤ x) (h2 : x ≤ 9223372036854775807) : IntKind.i64.wrap x = x := by
  rw [IntKind.wrap_i64]
  omega
end

/-! ## Slices that are only read -/
/-- The slice value v reads as the list l, each element as 'enc' says. -/
def SlT {α : Type} (w : World) (enc : α → List Value) (v : Value) (l : List α) : Prop :=
  ∃ a c, v = .slice a l.length c ∧ l.length ≤ c ∧ (l = [] ∨ ∃ b o, a = some ⟨b, o, none⟩ ∧ At w b o (l.flatMap enc))

section
variable {α : Type} {w w' : World} {enc : α → List Value} {v : Value} {l : List α}
theorem flat_len {sz : Nat} (h : ∀ x, (enc x).length = sz) (l : List α) : (l.flatMap enc).length = l.length * sz := by
  induction l with
  | nil => simp
  | cons x l ih => simp [ih, h, Nat.add_mul, Nat.add_comm]
theorem flat_drop {sz : Nat} (h : ∀ x, (enc x).length = sz) : ∀ (l : List α) (i : Nat), (l.flatMap enc).drop (i * sz) = (l.drop i).flatMap enc
  | [], i => by simp
  | x :: l, 0 => by simp
  | x :: l, i + 1 => by
    rw [List.flatMap_cons, List.drop_succ_cons, ← flat_drop h l i, Nat.add_mul, Nat.one_mul, Nat.add_comm (i * sz) sz, ← List.drop_drop]
    congr 1
    rw [← h x]
    exact List.drop_left
theorem flat_take {sz : Nat} (h : ∀ x, (enc x).length = sz) : ∀ (l : List α) (i : Nat), (l.flatMap enc).take (i * sz) = (l.take i).flatMap enc
  | [], i => by simp
  | x :: l, 0 => by simp
  | x :: l, i + 1 => by
    rw [List.flatMap_cons, List.take_succ_cons, List.flatMap_cons, ← flat_take h l i, Nat.add_mul, Nat.one_mul, Nat.add_comm (i * sz) sz]
    rw [← h x, List.take_length_add_append]
theorem at_elem {b o sz i : Nat} {x : α} (h : ∀ x, (enc x).length = sz) (ha : At w b o (l.flatMap enc)) (hx : l[i]? = some x) : At w b (o + i * sz) (enc x) := by
  have h1 := ha.sub (i * sz) sz
  rw [flat_drop h] at h1
  obtain ⟨hi, rfl⟩ := List.getElem?_eq_some_iff.1 hx
  rw [List.drop_eq_getElem_cons hi, List.flatMap_cons, ← h l[i], List.take_left] at h1
  rw [← h l[i]]
  exact h1
theorem SlT.kept {M : List Nat} (h : SlT w enc v l) (hk : Kept M w w') (hb : ∀ b o n c, v = .slice (some ⟨b, o, none⟩) n c → b ∉ M) : SlT w' enc v l := by
  obtain ⟨a, c, rfl, hc, hr⟩ := h
  refine ⟨a, c, rfl, hc, hr.imp id (fun ⟨b, o, ha, hat⟩ => ⟨b, o, ha, hat.kept hk (hb b o _ _ (by rw [ha]))⟩)⟩
theorem SlT.kept0 (h : SlT w enc v l) (hk : Kept [] w w') : SlT w' enc v l := h.kept hk (by simp)
theorem Own.slT {E : TypeId} {sz : Nat} {F : List Nat} (h : Own w E sz v l.length (l.flatMap enc) F) (hsz : ∀ x, (enc x).length = sz) (hp : 0 < sz) : SlT w enc v l := by
  obtain ⟨a, c, hv, hc, hr⟩ := h.slice
  refine ⟨a, c, hv, hc, ?_⟩
  rcases hr with hr | ⟨b, o, ha, _, hat⟩
  · left
    have := flat_len hsz l
    rw [hr] at this
    simp only [List.length_nil] at this
    have h0 : l.length = 0 := by
      rcases Nat.eq_zero_or_pos l.length with h | h
      · exact h
      · have := Nat.mul_pos h hp; omega
    exact List.eq_nil_of_length_eq_zero h0
  · exact .inr ⟨b, o, ha, hat⟩
end
def encI (n : Int) : List Value := [.int .i64 n]
theorem encI_len (n : Int) : (encI n).length = 1 := rfl
theorem flat_int (l : List Int) : l.flatMap encI = l.map (Value.int .i64) := by
  induction l with
  | nil => rfl
  | cons x l ih => rw [List.flatMap_cons, ih]; rfl
section
variable {P : Program} {w : World} {T : TypeId}
theorem slT_row {x : Addr} {len cap : Nat} {zs : List Int} {f : Int → Value} (hl : len ≤ cap) (hz : zs.length = cap) (hc : ∀ i, i < zs.length → w.cell? (x.add i) = some (f (zs.getD i 0))) :
    SlT w (fun n => [f n]) (.slice (some x) len cap) (zs.take len) ∧ (zs.take len).length = len := by
  have hlen : (zs.take len).length = len := by rw [List.length_take]; omega
  refine ⟨⟨some x, cap, by rw [hlen], by omega, ?_⟩, hlen⟩
  rcases Nat.eq_zero_or_pos len with h0 | h0
  · subst h0; exact .inl (by simp)
  · right
    have h1 := hc 0 (by omega)
    obtain ⟨b, o, s⟩ := x
    have hs : s = none := by
      cases s with
      | none => rfl
      | some k =>
        unfold World.cell? Addr.add at h1
        simp at h1
        split at h1 <;> simp at h1
    subst hs
    refine ⟨b, o, rfl, fun j hj => ?_⟩
    have hfl : ((zs.take len).flatMap fun n => [f n]) = (zs.take len).map f := by
      induction zs.take len with
      | nil => rfl
      | cons x l ih => rw [List.flatMap_cons, ih]; rfl
    rw [hfl] at hj ⊢
    rw [List.length_map, hlen] at hj
    have := hc j (by omega)
    rw [add_none] at this
    rw [this, List.getElem?_map, List.getElem?_take_of_lt hj]
    simp [List.getD, show j < zs.length by omega]
theorem slT_none {α : Type} {enc : α → List Value} {len cap : Nat} (h : len = 0) : SlT w enc (.slice none len cap) ([] : List α) := by
  subst h; exact ⟨none, cap, rfl, by simp, .inl rfl⟩

end
theorem at_cell {w : World} {b o j : Nat} {l : List Value} {v : Value} (h : At w b o l) (hv : l[j]? = some v) : w.cell? ⟨b, o + j, none⟩ = some v :=
  (h j (List.getElem?_eq_some_iff.1 hv).1).trans hv
theorem xP_and {P : Program} {T : TypeId} {K : Value → Prop} {k : IntKind} {a b : Int} : xP P (sBin .and T (.int k a) (.int k b)) K ↔ K (.int k (k.wrap (BitVec.ofInt k.bits a &&& BitVec.ofInt k.bits b).toNat)) := xP_of fun w => by simp [sBin, binOp, Op.intBits]
theorem xP_or {P : Program} {T : TypeId} {K : Value → Prop} {k : IntKind} {a b : Int} : xP P (sBin .or T (.int k a) (.int k b)) K ↔ K (.int k (k.wrap (BitVec.ofInt k.bits a ||| BitVec.ofInt k.bits b).toNat)) := xP_of fun w => by simp [sBin, binOp, Op.intBits]
theorem xP_xor {P : Program} {T : TypeId} {K : Value → Prop} {k : IntKind} {a b : Int} : xP P (sBin .xor T (.int k a) (.int k b)) K ↔ K (.int k (k.wrap (BitVec.ofInt k.bits a ^^^ BitVec.ofInt k.bits b).toNat)) := xP_of fun w => by simp [sBin, binOp, Op.intBits]
theorem wf_i64 {n : Int} (h : (Lit.int .i64 n).wf = true) : -9223372036854775808 ≤ n ∧ n ≤ 9223372036854775807 := by
  simpa [Lit.wf, IntKind.min, IntKind.max, IntKind.signed, IntKind.bits] using h
end Go.X
