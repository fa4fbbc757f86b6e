import Derived.Test.YtbfaglbfpmnnmaaDoorXDraw
import Derived.Laws.Sem
namespace Go.X
set_option linter.unusedSimpArgs false
set_option linter.unusedVariables false
open Go

inductive Ann where
  | nil
  | seq (a b : Ann)
  | join (L : List Nat) (a b : Ann)
  | one (a : Ann)
  | loop (L : List Nat) (a : Ann)
  | draw (plan : Plan) (anc : List Nat)

def Ann.fst : Ann → Ann
  | .seq a _ => a
  | .one a => a
  | _ => .nil
def Ann.snd : Ann → Ann
  | .seq _ b => b
  | _ => .nil

def writes : Code → List Nat
  | .region _ ops _ => writesOps ops
  | .seq a b => writes a ++ writes b
  | .cond _ a b => writes a ++ writes b
  | .block _ c => writes c
  | .loop c => writes c
  | .scope c => writes c
  | _ => []

def posIn : List Nat → Nat → Nat → Option Nat
  | [], _, _ => none
  | u :: r, t, k => bif Nat.beq u t then some k else posIn r t (k + 1)
def memB : List Nat → Nat → Bool
  | [], _ => false
  | u :: r, t => bif Nat.beq u t then true else memB r t
def envJ (ρ : Env) (Ws L : List Nat) (vs : List Value) (junk : Env) : Env := fun t =>
  match posIn L t 0 with
  | some k => vs.getD k undef
  | none => bif memB Ws t then junk t else ρ t

def xJoin (b1 : (List Value → World → Prop) → Prop) (b2 : List Value → Env → World → Prop) : Prop :=
  ∃ J : List Value → World → Prop, b1 J ∧ ∀ vs junk w, J vs w → b2 vs junk w
def xLoop (vs0 : List Value) (w0 : World) (body : (List Value → World → Prop) → List Value → Env → World → Prop) : Prop :=
  ∃ (I : List Value → World → Prop) (μ : List Value → World → Nat), I vs0 w0 ∧
    ∀ vs junk w, I vs w → body (fun vs' w' => I vs' w' ∧ μ vs' w' < μ vs w) vs junk w

abbrev Post := Exit → Env → World → Prop
def thenQ (next : Env → World → Prop) (Q : Post) : Post := fun e ρ w => match e with
  | .normal => next ρ w
  | .exit i => Q (.exit i) ρ w
  | .ret => Q .ret ρ w
  | .goto l => Q (.goto l) ρ w
  | _ => False
def inBlk (id : Nat) (Q : Post) : Post := fun e ρ w => match e with
  | .exit i => bif Nat.beq i id then Q .normal ρ w else Q (.exit i) ρ w
  | .normal => Q .normal ρ w
  | .ret => Q .ret ρ w
  | .goto l => Q (.goto l) ρ w
  | _ => False
def toJ (L : List Nat) (J : List Value → World → Prop) (Q : Post) : Post := thenQ (fun ρ w => J (L.map ρ) w) Q

def vc (P : Program) : Code → Ann → Post → Env → World → Prop
  | .skip, _, Q, ρ, w => Q .normal ρ w
  | .region _ ops d, an, Q, ρ, w => match d with
    | false => regVC P ops false [] (Q .normal) (planOf (List.range ops.size)) [] [] ρ w
    | true => match an with
      | .draw plan anc => regVC P ops true anc (Q .normal) plan [] [] ρ w.drew
      | _ => False
  | .seq x y, an, Q, ρ, w => match an with
    | .join L a b => xJoin (fun J => vc P x a (toJ L J Q) ρ w) (fun vs junk w' => vc P y b Q (envJ ρ (writes x) L vs junk) w')
    | .seq a b => vc P x a (thenQ (fun ρ' w' => vc P y b Q ρ' w') Q) ρ w
    | _ => vc P x .nil (thenQ (fun ρ' w' => vc P y .nil Q ρ' w') Q) ρ w
  | .cond c x y, an, Q, ρ, w => xIf (ev ρ c) (vc P x an.fst Q ρ w) (vc P y an.snd Q ρ w)
  | .block id c, an, Q, ρ, w => vc P c an.fst (inBlk id Q) ρ w
  | .loop c, an, Q, ρ, w => match an with
    | .loop L a => xLoop (L.map ρ) w (fun J vs junk w' => vc P c a (toJ L J Q) (envJ ρ (writes c) L vs junk) w')
    | _ => False
  | .exit id, _, Q, ρ, w => Q (.exit id) ρ w
  | .ret, _, Q, ρ, w => Q .ret ρ w
  | _, _, _, _, _ => False

def rangeOf (ops : Array Oper) : List Nat := List.range ops.size
def codeOK (P : Program) (n : Nat) : Code → Ann → Bool
  | .region _ ops d, an => match d with
    | false => uniqL (dsts ops) && boundL n (dsts ops) && guardsOK ops [] (List.range ops.size)
    | true => match an with
      | .draw plan anc => drawOK P ops anc n plan
      | _ => false
  | .seq x y, an => match an with
    | .join _ a b => codeOK P n x a && codeOK P n y b
    | .seq a b => codeOK P n x a && codeOK P n y b
    | _ => codeOK P n x .nil && codeOK P n y .nil
  | .cond _ x y, an => codeOK P n x an.fst && codeOK P n y an.snd
  | .block _ c, an => codeOK P n c an.fst
  | .loop c, an => match an with
    | .loop _ a => codeOK P n c a
    | _ => false
  | _, _ => true

theorem posIn_spec : ∀ {L : List Nat} {t k m : Nat}, posIn L t k = some m → k ≤ m ∧ L[m - k]? = some t
  | [], _, _, _, h => by cases h
  | u :: r, t, k, m, h => by
    simp only [posIn] at h
    cases hb : Nat.beq u t with
    | true =>
      rw [hb] at h
      simp at h
      subst h
      simp [Nat.eq_of_beq_eq_true hb]
    | false =>
      rw [hb] at h
      obtain ⟨h1, h2⟩ := posIn_spec (L := r) h
      refine ⟨by omega, ?_⟩
      have : m - k = (m - (k + 1)) + 1 := by omega
      rw [this]
      simpa using h2

theorem memB_spec : ∀ {L : List Nat} {t : Nat}, memB L t = false → t ∉ L
  | [], _, _ => by simp
  | u :: r, t, h => by
    simp only [memB] at h
    cases hb : Nat.beq u t with
    | true => rw [hb] at h; cases h
    | false =>
      rw [hb] at h
      have := memB_spec (L := r) h
      intro hm
      rcases List.mem_cons.1 hm with rfl | hm
      · simp at hb
      · exact this hm

theorem envJ_self {ρ ρ' : Env} {Ws L : List Nat} (h : ∀ t, t ∉ Ws → ρ' t = ρ t) : envJ ρ Ws L (L.map ρ') ρ' = ρ' := by
  funext t
  unfold envJ
  cases hp : posIn L t 0 with
  | some k =>
    have := (posIn_spec hp).2
    simp at this
    simp [List.getD, this]
  | none =>
    cases hm : memB Ws t with
    | true => rfl
    | false => exact (h t (memB_spec hm)).symm

theorem vc_sound {P : Program} {n : Nat} (hm : P.follows .mixedOrders = true) : ∀ (c : Code) (an : Ann) (Q : Post) (ρ : Env) (a : Act) (w : World),
    codeOK P n c an = true → Rep n a ρ → vc P c an Q ρ w →
    c.wp P (fun e a' w' => ∃ ρ', Rep n a' ρ' ∧ Q e ρ' w' ∧ ∀ t, t ∉ writes c → ρ' t = ρ t) a w := by
  intro c
  induction c with
  | skip => intro an Q ρ a w _ hr h; exact wp_skip ⟨ρ, hr, h, fun _ _ => rfl⟩
  | region id ops d =>
    intro an Q ρ a w hc hr h
    cases d with
    | false =>
      simp only [codeOK, Bool.and_eq_true] at hc
      refine wp_region (regVC_seq (n := n) (K := Q .normal) (anc := []) hc.1.1 hc.1.2 ρ (fun a' ρ' w' hr' hk hw => ⟨ρ', hr', hk, hw⟩) (List.range ops.size) [] [] [] ρ a w (by simp) List.nodup_range hc.2 (fun g ob hg => by cases hg) hr (fun _ _ => rfl) h)
    | true =>
      cases an with
      | draw plan anc =>
        simp only [codeOK] at hc
        exact regVC_draw (n := n) hc hm (fun a' ρ' w' hr' hk hw => ⟨ρ', hr', hk, hw⟩) hr h
      | _ => exact h.elim
  | seq x y ihx ihy =>
    intro an Q ρ a w hc hr h
    have common : ∀ (b : Ann) (Q1 : Post), (∀ ρ' w', Q1 .normal ρ' w' → (∀ t, t ∉ writes x → ρ' t = ρ t) → ∀ a', Rep n a' ρ' → y.wp P (fun e a'' w'' => ∃ ρ'', Rep n a'' ρ'' ∧ Q e ρ'' w'' ∧ ∀ t, t ∉ writes (.seq x y) → ρ'' t = ρ t) a' w') →
        (∀ e ρ' w', e ≠ .normal → Q1 e ρ' w' → Q e ρ' w') → vc P x b Q1 ρ w → codeOK P n x b = true →
        (Code.seq x y).wp P (fun e a'' w'' => ∃ ρ'', Rep n a'' ρ'' ∧ Q e ρ'' w'' ∧ ∀ t, t ∉ writes (.seq x y) → ρ'' t = ρ t) a w := by
      intro b Q1 hn he hx hcx
      refine wp_seq (wp_mono (ihx b Q1 ρ a w hcx hr hx) ?_)
      intro e a' w' hq
      obtain ⟨ρ', hr', hq1, hw⟩ := hq
      have hsub : ∀ t, t ∉ writes (.seq x y) → ρ' t = ρ t := fun t ht => hw t (fun h => ht (List.mem_append.2 (.inl h)))
      cases e with
      | normal => exact hn ρ' w' hq1 hw a' hr'
      | exit i => exact ⟨ρ', hr', he _ _ _ (by simp) hq1, hsub⟩
      | goto l => exact ⟨ρ', hr', he _ _ _ (by simp) hq1, hsub⟩
      | ret => exact ⟨ρ', hr', he _ _ _ (by simp) hq1, hsub⟩
      | panic ch => exact ⟨ρ', hr', he _ _ _ (by simp) hq1, hsub⟩
      | outgrown => exact ⟨ρ', hr', he _ _ _ (by simp) hq1, hsub⟩
    have thn : ∀ (ρ1 : Env) (b : Ann) (ρ' : Env) (w' : World), codeOK P n y b = true → vc P y b Q ρ' w' → (∀ t, t ∉ writes x → ρ' t = ρ t) → ∀ a', Rep n a' ρ' →
        y.wp P (fun e a'' w'' => ∃ ρ'', Rep n a'' ρ'' ∧ Q e ρ'' w'' ∧ ∀ t, t ∉ writes (.seq x y) → ρ'' t = ρ t) a' w' := by
      intro _ b ρ' w' hcy hy hw a' hr'
      refine wp_mono (ihy b Q ρ' a' w' hcy hr' hy) ?_
      intro e a'' w'' hq
      obtain ⟨ρ'', hr'', hq2, hw2⟩ := hq
      refine ⟨ρ'', hr'', hq2, fun t ht => ?_⟩
      have ht' : t ∉ writes x ∧ t ∉ writes y := ⟨fun h => ht (List.mem_append.2 (.inl h)), fun h => ht (List.mem_append.2 (.inr h))⟩
      exact (hw2 t ht'.2).trans (hw t ht'.1)
    have plain : ∀ (a' b' : Ann), codeOK P n x a' = true → codeOK P n y b' = true → vc P x a' (thenQ (fun ρ' w' => vc P y b' Q ρ' w') Q) ρ w → _ := fun a' b' hx hy hv =>
      common a' _ (fun ρ' w' hq hw a'' hr'' => thn ρ b' ρ' w' hy hq hw a'' hr'') (fun e ρ' w' hne hq => by
        cases e with
        | normal => exact absurd rfl hne
        | exit i => exact hq
        | goto l => exact hq
        | ret => exact hq
        | panic ch => exact hq.elim
        | outgrown => exact hq.elim) hv hx
    cases an with
    | join L a' b' =>
      simp only [codeOK, Bool.and_eq_true] at hc
      obtain ⟨J, hj1, hj2⟩ := h
      refine common a' _ (fun ρ' w' hq hw a'' hr'' => ?_) (fun e ρ' w' hne hq => by
        cases e with
        | normal => exact absurd rfl hne
        | exit i => exact hq
        | goto l => exact hq
        | ret => exact hq
        | panic ch => exact hq.elim
        | outgrown => exact hq.elim) hj1 hc.1
      have := hj2 (L.map ρ') ρ' w' hq
      dsimp only at this
      rw [envJ_self hw] at this
      exact thn ρ b' ρ' w' hc.2 this hw a'' hr''
    | seq a' b' =>
      simp only [codeOK, Bool.and_eq_true] at hc
      exact plain a' b' hc.1 hc.2 h
    | nil => simp only [codeOK, Bool.and_eq_true] at hc; exact plain .nil .nil hc.1 hc.2 h
    | one _ => simp only [codeOK, Bool.and_eq_true] at hc; exact plain .nil .nil hc.1 hc.2 h
    | loop _ _ => simp only [codeOK, Bool.and_eq_true] at hc; exact plain .nil .nil hc.1 hc.2 h
    | draw _ _ => simp only [codeOK, Bool.and_eq_true] at hc; exact plain .nil .nil hc.1 hc.2 h
  | cond c x y ihx ihy =>
    intro an Q ρ a w hc hr h
    simp only [codeOK, Bool.and_eq_true] at hc
    rcases h with ⟨hv, h⟩ | ⟨hv, h⟩
    · refine wp_cond_true (by rw [hr.ev]; exact hv) (wp_mono (ihx an.fst Q ρ a w hc.1 hr h) ?_)
      exact fun e a' w' ⟨ρ', h1, h2, h3⟩ => ⟨ρ', h1, h2, fun t ht => h3 t (fun h => ht (List.mem_append.2 (.inl h)))⟩
    · refine wp_cond_false (by rw [hr.ev]; exact hv) (wp_mono (ihy an.snd Q ρ a w hc.2 hr h) ?_)
      exact fun e a' w' ⟨ρ', h1, h2, h3⟩ => ⟨ρ', h1, h2, fun t ht => h3 t (fun h => ht (List.mem_append.2 (.inr h)))⟩
  | block id c ih =>
    intro an Q ρ a w hc hr h
    simp only [codeOK] at hc
    refine wp_block (wp_mono (ih an.fst (inBlk id Q) ρ a w hc hr h) ?_)
    intro e a' w' hq
    obtain ⟨ρ', h1, h2, h3⟩ := hq
    cases e with
    | exit i =>
      simp only [inBlk] at h2
      simp only [Exit.inBlock]
      by_cases hi : i = id
      · subst hi
        simp only [Nat.beq_refl, cond_true] at h2
        rw [if_pos rfl]
        exact ⟨ρ', h1, h2, h3⟩
      · have : Nat.beq i id = false := by
          cases hb : Nat.beq i id with
          | false => rfl
          | true => exact absurd (Nat.eq_of_beq_eq_true hb) hi
        rw [this, cond_false] at h2
        rw [if_neg hi]
        exact ⟨ρ', h1, h2, h3⟩
    | normal => exact ⟨ρ', h1, h2, h3⟩
    | goto l => exact ⟨ρ', h1, h2, h3⟩
    | ret => exact ⟨ρ', h1, h2, h3⟩
    | panic ch => exact h2.elim
    | outgrown => exact h2.elim
  | loop c ih =>
    intro an Q ρ a w hc hr h
    cases an with
    | loop L an' =>
      simp only [codeOK] at hc
      obtain ⟨I, μ, h0, hround⟩ := h
      have hmap : ∀ (a : Act) (ρ : Env), Rep n a ρ → (L.map fun t => a.tmps.getD t undef) = L.map ρ := fun a ρ hr => List.map_congr_left (fun t _ => hr.2.2 t)
      refine wp_loop (fun a w => ∃ ρ', Rep n a ρ' ∧ I (L.map ρ') w ∧ ∀ t, t ∉ writes c → ρ' t = ρ t) (fun a w => μ (L.map fun t => a.tmps.getD t undef) w) ⟨ρ, hr, h0, fun _ _ => rfl⟩ ?_
      intro a' w' hI
      obtain ⟨ρ', hr', hi, hw⟩ := hI
      have hb := hround (L.map ρ') ρ' w' hi
      dsimp only at hb
      rw [envJ_self hw] at hb
      refine wp_mono (ih an' _ ρ' a' w' hc hr' hb) ?_
      intro e a'' w'' hq
      obtain ⟨ρ'', hr'', hq, hw2⟩ := hq
      have hw3 : ∀ t, t ∉ writes c → ρ'' t = ρ t := fun t ht => (hw2 t ht).trans (hw t ht)
      cases e with
      | normal => exact ⟨⟨ρ'', hr'', hq.1, hw3⟩, by rw [hmap a'' ρ'' hr'', hmap a' ρ' hr']; exact hq.2⟩
      | exit i => exact ⟨ρ'', hr'', hq, hw3⟩
      | goto l => exact ⟨ρ'', hr'', hq, hw3⟩
      | ret => exact ⟨ρ'', hr'', hq, hw3⟩
      | panic ch => exact hq.elim
      | outgrown => exact hq.elim
    | _ => exact h.elim
  | exit id => intro an Q ρ a w _ hr h; exact wp_exit ⟨ρ, hr, h, fun _ _ => rfl⟩
  | ret => intro an Q ρ a w _ hr h; exact wp_ret ⟨ρ, hr, h, fun _ _ => rfl⟩
  | rangeFunc _ _ _ _ _ _ => intro an Q ρ a w _ _ h; exact h.elim
  | scope _ _ => intro an Q ρ a w _ _ h; exact h.elim
  | label _ => intro an Q ρ a w _ _ h; exact h.elim
  | goto _ => intro an Q ρ a w _ _ h; exact h.elim
  | refuse _ => intro an Q ρ a w _ _ h; exact h.elim

/-! ## A function -/
def resVC (P : Program) : List ResultVar → Env → World → (List Value → Prop) → Prop
  | [], _, _, K => K []
  | .tmp t :: r, ρ, w, K => resVC P r ρ w fun vs => K (ρ t :: vs)
  | .cell p T :: r, ρ, w, K => xR P (sLoad T (ρ p)) w fun v => resVC P r ρ w fun vs => K (v :: vs)
def pack : List Value → Value
  | [v] => v
  | vs => .tuple vs.toArray
def retQ (P : Program) (rs : List ResultVar) (R : Ending → World → Prop) : Post := fun e ρ w => match e with
  | .normal => resVC P rs ρ w fun vs => R (.returned (pack vs)) w
  | .ret => resVC P rs ρ w fun vs => R (.returned (pack vs)) w
  | _ => False
def bodyOf (fn : Func) : Code := fn.body.getD .skip
def funcVC (P : Program) (fn : Func) (an : Ann) (args : List Value) (w : World) (R : Ending → World → Prop) : Prop :=
  vc P (bodyOf fn) an (retQ P fn.results.toList R) (ofList args) w
def funcOK (P : Program) (fn : Func) (an : Ann) (nargs : Nat) : Bool :=
  fn.body.isSome && Nat.ble nargs fn.ntmps && codeOK P fn.ntmps (bodyOf fn) an && P.follows .mixedOrders

theorem load_pointer {P : Program} {T : TypeId} {p v : Value} {w : World} (h : (sLoad T p).run P w = .ok (.value v) w) :
    (do loadVar T (← asAddr p) : Sem Value).run P w = .ok v w := by
  have e : (sLoad T p).run P w = ((Instr.loadAt T p).run P w).andThen fun v w' => .ok (.value v) w' := by
    unfold sLoad
    rw [Sem.run_bind]
    rfl
  rw [e] at h
  unfold Instr.loadAt at h
  have key : ∀ a, (Instr.sureAddr p = pure a) → (asAddr p = pure a) → (do loadVar T (← asAddr p) : Sem Value).run P w = .ok v w := by
    intro a h1 h2
    rw [h1] at h
    rw [h2]
    simp only [pure_bind] at h ⊢
    cases hr : (loadVar T a).run P w with
    | ok u w' =>
      rw [hr] at h
      simp at h
      obtain ⟨rfl, rfl⟩ := h
      rfl
    | halt x w' => rw [hr] at h; simp at h
  cases p with
  | pointer a =>
    cases a with
    | some a => exact key a rfl rfl
    | none => simp [Instr.sureAddr] at h
  | _ => simp [Instr.sureAddr] at h

def oneRes (tmps : Array Value) (x : ResultVar) : Sem Value :=
  match x with
  | .tmp t => pure (tmps.getD t undef)
  | .cell a t => do loadVar t (← asAddr (tmps.getD a undef))

theorem resVC_sound {P : Program} {n : Nat} {a : Act} {ρ : Env} {w : World} (hr : Rep n a ρ) : ∀ (rs : List ResultVar) (K : List Value → Prop), resVC P rs ρ w K →
    ∃ vs, (rs.mapM (oneRes a.tmps)).run P w = .ok vs w ∧ K vs := by
  intro rs
  induction rs with
  | nil => intro K h; exact ⟨[], rfl, h⟩
  | cons x rs ih =>
    intro K h
    cases x with
    | tmp t =>
      obtain ⟨vs, h1, h2⟩ := ih _ h
      refine ⟨ρ t :: vs, ?_, h2⟩
      rw [List.mapM_cons]
      simp only [oneRes, Sem.run_bind, Sem.run_pure, Result.andThen_ok]
      rw [h1, hr.2.2 t]
      rfl
    | cell p T =>
      obtain ⟨v, hv, h⟩ := h
      obtain ⟨vs, h1, h2⟩ := ih _ h
      refine ⟨v :: vs, ?_, h2⟩
      have hl := load_pointer hv
      rw [List.mapM_cons]
      rw [Sem.run_bind]
      simp only [oneRes, hr.2.2 p]
      rw [hl]
      simp only [Result.andThen_ok, Sem.run_bind]
      rw [h1]
      rfl

theorem results_sound {P : Program} {fn : Func} {n : Nat} {a : Act} {ρ : Env} {w : World} (hr : Rep n a ρ) {R : Ending → World → Prop}
    (h : resVC P fn.results.toList ρ w fun vs => R (.returned (pack vs)) w) : a.defers = [] ∧ ∃ v, (results fn a.tmps).run P w = .ok v w ∧ R (.returned v) w := by
  obtain ⟨vs, h1, h2⟩ := resVC_sound hr _ _ h
  refine ⟨hr.1, pack vs, ?_, h2⟩
  have e : results fn a.tmps = (do
      let vs ← fn.results.mapM (oneRes a.tmps)
      pure (if h : vs.size = 1 then vs[0] else .tuple vs)) := by
    unfold results
    congr 1
  rw [e, Sem.run_bind, Array.mapM_eq_mapM_toList, Sem.run_map, h1]
  simp only [Result.andThen_ok, Sem.run_pure]
  congr 1
  match vs with
  | [] => rfl
  | [v] => rfl
  | v :: u :: l => simp [pack]

theorem funcVC_sound {P : Program} {f : FuncId} {fn : Func} {an : Ann} {args : List Value} {w : World} {R : Ending → World → Prop} {k : Nat}
    (hf : P.funcs[f]? = some fn) (hok : funcOK P fn an k = true) (hk : args.length = k) (h : funcVC P fn an args w R) : Calls P f args.toArray w R := by
  simp only [funcOK, Bool.and_eq_true] at hok
  obtain ⟨⟨⟨hb, hle⟩, hc⟩, hm⟩ := hok
  obtain ⟨c, hb'⟩ := Option.isSome_iff_exists.1 hb
  have hbo : bodyOf fn = c := by unfold bodyOf; rw [hb']; rfl
  refine calls_of_wp hf hb' ?_
  rw [← hbo]
  have hrep := Rep.ofArgs args fn.ntmps (by rw [hk]; exact Nat.le_of_ble_eq_true hle)
  refine wp_mono (vc_sound hm (bodyOf fn) an _ _ _ w hc hrep h) ?_
  intro e a' w' hq
  obtain ⟨ρ', hr', hq, _⟩ := hq
  cases e with
  | normal => exact results_sound hr' hq
  | ret => exact results_sound hr' hq
  | exit i => exact hq.elim
  | goto l => exact hq.elim
  | panic ch => exact hq.elim
  | outgrown => exact hq.elim
end Go.X
