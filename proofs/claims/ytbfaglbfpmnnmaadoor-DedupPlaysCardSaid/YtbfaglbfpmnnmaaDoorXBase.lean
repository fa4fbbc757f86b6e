import Derived.Orders
import Derived.Laws.World
namespace Go.X
set_option linter.unusedSimpArgs false
set_option linter.unusedVariables false
open Go

/-! ## Environments -/
abbrev Env := Nat → Value
def Env.put (ρ : Env) (d : Option Tmp) (v : Value) : Env :=
  match d with
  | none => ρ
  | some d => fun t => bif Nat.beq t d then v else ρ t
def ev (ρ : Env) : Operand → Value
  | .tmp t => ρ t
  | .const v => v
  | .global g => .pointer (some ⟨g, 0, none⟩)
  | .func f => .func (.func f) #[] #[]
def ofList (l : List Value) : Env := fun t => l.getD t undef

/-- The act a bears the environment ρ in n slots. -/
def Rep (n : Nat) (a : Act) (ρ : Env) : Prop := a.defers = [] ∧ a.tmps.size = n ∧ ∀ t, a.tmps.getD t undef = ρ t

theorem Rep.ev {n : Nat} {a : Act} {ρ : Env} (h : Rep n a ρ) : a.eval = ev ρ := by
  funext x
  cases x with
  | tmp t => exact h.2.2 t
  | _ => rfl

theorem Rep.put {n : Nat} {a : Act} {ρ : Env} (h : Rep n a ρ) {d : Option Tmp} (hd : ∀ t, d = some t → t < n) (v : Value) : Rep n (a.put d v) (ρ.put d v) := by
  cases d with
  | none => exact h
  | some d =>
    refine ⟨h.1, by simp [Act.put, h.2.1], fun t => ?_⟩
    have hdn := hd d rfl
    have hsz := h.2.1
    have ht := h.2.2 t
    simp only [Act.put, Env.put]
    by_cases htd : t = d
    · subst htd
      simp [Array.getD, hsz, hdn]
    · have : Nat.beq t d = false := by
        cases hb : Nat.beq t d with
        | false => rfl
        | true => exact absurd (Nat.eq_of_beq_eq_true hb) htd
      rw [this, cond_false, ← ht]
      simp only [Array.getD_eq_getD_getElem?]
      rw [Array.getElem?_setIfInBounds_ne (Ne.symm htd)]

theorem Rep.ofArgs (args : List Value) (n : Nat) (h : args.length ≤ n) :
    Rep n { tmps := args.toArray ++ Array.replicate (n - args.toArray.size) undef, defers := [] } (ofList args) := by
  refine ⟨rfl, by simp; omega, fun t => ?_⟩
  simp only [ofList, Array.getD_eq_getD_getElem?, List.getD_eq_getElem?_getD, Array.getElem?_append, List.size_toArray, Array.getElem?_replicate, List.getElem?_toArray]
  by_cases ht : t < args.length
  · simp [ht]
  · rw [if_neg ht]
    have : args[t]? = none := List.getElem?_eq_none (by omega)
    rw [this]
    split <;> simp

/-! ## Small predicates: what an operation asks -/
/-- A pure step: in whatever world. -/
def xP (P : Program) (s : Sem Next) (K : Value → Prop) : Prop := ∃ v, (∀ w, s.run P w = .ok (.value v) w) ∧ K v
/-- A reading step. -/
def xR (P : Program) (s : Sem Next) (w : World) (K : Value → Prop) : Prop := ∃ v, s.run P w = .ok (.value v) w ∧ K v
def Ret (K : Value → World → Prop) : Ending → World → Prop
  | .returned v, w => K v w
  | _, _ => False
/-- Any step. -/
def xE (P : Program) (s : Sem Next) (w : World) (K : Value → World → Prop) : Prop :=
  match s.run P w with
  | .ok (.value v) w' => K v w'
  | .ok .skip w' => K undef w'
  | .ok (.enter f args) w' => Calls P f args w' (Ret K)
  | _ => False
def xIf (v : Value) (A B : Prop) : Prop := (v = .bool true ∧ A) ∨ (v = .bool false ∧ B)

/-! ## The operations' own words -/
def sAlloc (e : TypeId) : Sem Next := do pure (.value (← Instr.alloc e true (.tuple #[])))
def sBox (e : TypeId) (v : Value) : Sem Next := do pure (.value (← Instr.box e v))
def sBuild (t : TypeId) (ps : Array (Nat × Value)) : Sem Next := do pure (.value (← Instr.build t ps))
def sBuildSlice (t : TypeId) (n : Nat) (ps : Array (Nat × Value)) : Sem Next := do pure (.value (← Instr.buildSlice t n ps))
def sLoad (t : TypeId) (v : Value) : Sem Next := do pure (.value (← Instr.loadAt t v))
def sStore (t : TypeId) (p v : Value) : Sem Next := do Instr.storeAt t p v; pure .skip
def sNil (v : Value) : Sem Next := execOp (fun _ => v) ⟨none, .nilCheck (.tmp 0), 0, "", #[], none⟩
def sBin (op : BinOp) (t : TypeId) (a b : Value) : Sem Next := do pure (.value (← binOp op t a b))
/-- '==' and '!='; c: is one of the two written as a constant? -/
def sEq (op : BinOp) (t : TypeId) (c : Bool) (a b : Value) : Sem Next := do pure (.value (← (do eqGuard op t (bif c then .const undef else .tmp 0) (.tmp 0) a b; binOp op t a b)))
def sUn (op : UnOp) (v : Value) : Sem Next := do pure (.value (← Op.unary op v))
def sConv (s d : TypeId) (v : Value) : Sem Next := do pure (.value (← convert s d v))
def sIface (t : TypeId) (v : Value) : Sem Next := do pure (.value (← Instr.makeInterface t v))
def sFunc (fn : Fn) (a b : Array Value) : Sem Next := do pure (.value (← Instr.makeFunc fn a b))
def sMakeMap (t : TypeId) (v : Option Value) : Sem Next := do pure (.value (← Instr.makeMap t v))
def sMakeSlice (t : TypeId) (a b : Value) : Sem Next := do pure (.value (← Instr.makeSlice t a b))
def sSlice (t : TypeId) (x : Value) (lo hi mx : Option Value) : Sem Next := do pure (.value (← Instr.sliceAt t x lo hi mx))
def sFA (t : TypeId) (v : Value) (f : Nat) : Sem Next := do pure (.value (← Instr.fieldAt t v f))
def sField (t : TypeId) (v : Value) (f : Nat) : Sem Next := do pure (.value (← Instr.field t v f))
def sIA (t : TypeId) (v i : Value) : Sem Next := do pure (.value (← Instr.indexAt t v i))
def sIndex (t : TypeId) (v i : Value) : Sem Next := do pure (.value (← Instr.index t v i))
def sLookup (t : TypeId) (v i : Value) (ok : Bool) : Sem Next := do pure (.value (← Instr.lookup t v i ok))
def sMapUpdate (t : TypeId) (m k v : Value) : Sem Next := do Instr.mapUpdate t m k v; pure .skip
def sRange (t : TypeId) (v : Value) : Sem Next := do pure (.value (← Instr.range t v))
def sNext (v : Value) (s : Bool) (t : TypeId) : Sem Next := do pure (.value (← Instr.next v s t))
def sEntry (v : Value) : Sem Next := do pure (.value (← Instr.entry v))
def sAssert (v : Value) (t a : TypeId) (ok : Bool) : Sem Next := do pure (.value (← Instr.typeAssert v t a ok))
def sExtract (v : Value) (i : Nat) : Sem Next := do pure (.value (← Instr.extract v i))
def sPick (c a b : Value) : Sem Next := do pure (.value (if ← asBool c then a else b))
def sBuiltin (b : Builtin) (ts : Array TypeId) (t : TypeId) (cs : Array Bool) (vs : Array Value) : Sem Next := builtin b ts t cs vs
def sB (b : Builtin) (ts : Array TypeId) (vs : Array Value) : Sem Next := builtin b ts 0 #[] vs
def sCallV (f : Value) (args : Array Value) : Sem Next := do let d ← Deferred.ofValue f args; invoke d.target d.args
def sCall (f : FuncId) (args : Array Value) : Sem Next := sCallV (.func (.func f) #[] #[]) args
def sInvoke (m : String) (args : Array Value) : Sem Next := invoke (.fn (.method m) #[]) args

def isC (xs : Array Operand) : Array Bool := xs.map fun | .const _ => true | _ => false
def isK : Operand → Bool
  | .const _ => true
  | _ => false
def amap {α β : Type} (f : α → β) (a : Array α) : Array β := (a.toList.map f).toArray
theorem amap_eq {α β : Type} (f : α → β) (a : Array α) : amap f a = a.map f := by
  unfold amap
  rw [← Array.toList_map]

/-- How an operation is met: its value is at hand; pure; reads; any. -/
inductive How where
  | mv (v : Value)
  | pure (s : Sem Next)
  | read (s : Sem Next)
  | any (s : Sem Next)

def isMap (P : Program) (t : TypeId) : Bool := match P.underlying t with | some (.map ..) => true | _ => false
def isInt (P : Program) (t : TypeId) : Bool := match P.underlying t with | some (.int _) => true | _ => false

def how (P : Program) (ρ : Env) (o : Oper) : How :=
  match o.op with
  | .move x => .mv (ev ρ x)
  | .assign x => .mv (ev ρ x)
  | .pick c a b => .pure (sPick (ev ρ c) (ev ρ a) (ev ρ b))
  | .alloc e => .any (sAlloc e)
  | .box e x => .any (sBox e (ev ρ x))
  | .build t ps => .pure (sBuild t (amap (fun p => (p.1, ev ρ p.2)) ps))
  | .buildSlice t n ps => .any (sBuildSlice t n (amap (fun p => (p.1, ev ρ p.2)) ps))
  | .load t a => .read (sLoad t (ev ρ a))
  | .store t a x => .any (sStore t (ev ρ a) (ev ρ x))
  | .nilCheck x => .pure (sNil (ev ρ x))
  | .binOp op t x y _ => match op with
    | .eql => .read (sEq .eql t (isK x || isK y) (ev ρ x) (ev ρ y))
    | .neq => .read (sEq .neq t (isK x || isK y) (ev ρ x) (ev ρ y))
    | op => .pure (sBin op t (ev ρ x) (ev ρ y))
  | .unOp op _ x => .pure (sUn op (ev ρ x))
  | .convert s d x => bif isInt P s && isInt P d then .pure (sConv s d (ev ρ x)) else .any (sConv s d (ev ρ x))
  | .makeInterface t x => .pure (sIface t (ev ρ x))
  | .makeFunc fn a b => .pure (sFunc fn (amap (ev ρ) a) (amap (ev ρ) b))
  | .makeMap t r => .any (sMakeMap t (r.map (ev ρ)))
  | .makeSlice t a b => .any (sMakeSlice t (ev ρ a) (ev ρ b))
  | .slice t x lo hi mx => .pure (sSlice t (ev ρ x) (lo.map (ev ρ)) (hi.map (ev ρ)) (mx.map (ev ρ)))
  | .fieldAddr t x f => .pure (sFA t (ev ρ x) f)
  | .field t x f => .pure (sField t (ev ρ x) f)
  | .indexAddr t x i => .pure (sIA t (ev ρ x) (ev ρ i))
  | .index t x i => .pure (sIndex t (ev ρ x) (ev ρ i))
  | .lookup t x i ok => .read (sLookup t (ev ρ x) (ev ρ i) ok)
  | .mapUpdate t m k v => .any (sMapUpdate t (ev ρ m) (ev ρ k) (ev ρ v))
  | .insert t m k v => .any (sMapUpdate t (ev ρ m) (ev ρ k) (ev ρ v))
  | .range t x => .any (sRange t (ev ρ x))
  | .next it s => .any (sNext (ev ρ it) s o.type)
  | .entry it => .read (sEntry (ev ρ it))
  | .typeAssert x t a ok => .pure (sAssert (ev ρ x) t a ok)
  | .extract x i => .pure (sExtract (ev ρ x) i)
  | .call c => match c.callee with
    | .value f => match f with
      | .func g => .any (sCall g (amap (ev ρ) c.args))
      | f => .any (sCallV (ev ρ f) (amap (ev ρ) c.args))
    | .invoke r m => .any (sInvoke m (ev ρ r :: c.args.toList.map (ev ρ)).toArray)
    | .builtin b => match b with
      | .len => bif isMap P (c.argTypes.getD 0 0) then .read (sB .len c.argTypes (amap (ev ρ) c.args)) else .pure (sB .len c.argTypes (amap (ev ρ) c.args))
      | .cap => .pure (sB .cap c.argTypes (amap (ev ρ) c.args))
      | .min => .pure (sB .min c.argTypes (amap (ev ρ) c.args))
      | .max => .pure (sB .max c.argTypes (amap (ev ρ) c.args))
      | .append => .any (sB .append c.argTypes (amap (ev ρ) c.args))
      | .copy => .any (sB .copy c.argTypes (amap (ev ρ) c.args))
      | .delete => .any (sB .delete c.argTypes (amap (ev ρ) c.args))
      | .clear => .any (sB .clear c.argTypes (amap (ev ρ) c.args))
      | b => .any (sBuiltin b c.argTypes o.type (isC c.args) (amap (ev ρ) c.args))
  | _ => .any (execOp (ev ρ) o)

/-- What the step must give. -/
def doHow (P : Program) (h : How) (w : World) (K : Value → World → Prop) : Prop :=
  match h with
  | .mv v => K v w
  | .pure s => xP P s fun v => K v w
  | .read s => xR P s w fun v => K v w
  | .any s => xE P s w K


def How.is (h : How) (s : Sem Next) : Prop :=
  match h with
  | .mv v => s = Sem.pure (Next.value v)
  | .pure s' => s = s'
  | .read s' => s = s'
  | .any s' => s = s'

theorem eqGuard_k (op : BinOp) (t : TypeId) (x y : Operand) (a b : Value) :
    eqGuard op t x y a b = eqGuard op t (bif isK x || isK y then .const undef else .tmp 0) (.tmp 0) a b := by
  cases x <;> cases y <;> simp only [isK, Bool.or_true, Bool.or_false, cond_true, cond_false] <;> unfold eqGuard <;> rfl

theorem how_spec (P : Program) (ρ : Env) (o : Oper) : (how P ρ o).is (execOp (ev ρ) o) := by
  obtain ⟨dst, op, type, pos, after, guard⟩ := o
  cases op
  case build t ps => simp only [how, amap_eq]; rfl
  case buildSlice t n ps => simp only [how, amap_eq]; rfl
  case makeFunc fn a b => simp only [how, amap_eq]; rfl
  case binOp b t x y yt =>
    cases b
    case eql => simp only [how, How.is, execOp, sEq]; rw [eqGuard_k]
    case neq => simp only [how, How.is, execOp, sEq]; rw [eqGuard_k]
    all_goals rfl
  case convert s d x =>
    simp only [how]
    cases isInt P s && isInt P d <;> rfl
  case call c =>
    obtain ⟨callee, args, ats⟩ := c
    cases callee with
    | value f => cases f <;> simp only [how, amap_eq] <;> rfl
    | invoke r m =>
      have : (ev ρ r :: args.toList.map (ev ρ)).toArray = #[ev ρ r] ++ args.map (ev ρ) := by
        rw [← List.singleton_append, ← List.append_toArray, ← Array.toList_map]
      simp only [how, this]
      rfl
    | builtin b =>
      cases b <;> simp only [how, amap_eq] <;> first | rfl | (cases isMap P (ats.getD 0 0) <;> rfl)
  all_goals rfl

theorem doHow_sound {P : Program} {n : Nat} {a : Act} {ρ : Env} {o : Oper} {w : World} {K : Value → World → Prop} {Q : Exit → Act → World → Prop}
    (hr : Rep n a ρ) (h : doHow P (how P ρ o) w K) : o.wp P a w (fun a' w' => ∃ v, a' = a.put o.dst v ∧ K v w') Q := by
  have hs := how_spec P ρ o
  unfold Oper.wp
  rw [hr.ev]
  generalize how P ρ o = hh at *
  cases hh with
  | mv v =>
    simp only [How.is] at hs
    rw [hs]
    exact ⟨v, rfl, h⟩
  | pure s =>
    simp only [How.is] at hs
    obtain ⟨v, h1, h2⟩ := h
    rw [hs, h1 w]
    exact ⟨v, rfl, h2⟩
  | read s =>
    simp only [How.is] at hs
    obtain ⟨v, h1, h2⟩ := h
    rw [hs, h1]
    exact ⟨v, rfl, h2⟩
  | any s =>
    simp only [How.is] at hs
    rw [hs]
    simp only [doHow, xE] at h
    generalize s.run P w = r at *
    cases r with
    | ok x w' =>
      cases x <;> simp only at h <;> first
        | exact h.elim
        | exact ⟨_, rfl, h⟩
        | exact Calls.mono h (fun e w'' he => by cases e <;> first | exact ⟨_, rfl, he⟩ | exact he.elim)
    | halt x w' => exact h.elim
end Go.X
