import Derived.Test.YtoanmeohlpdjfaaDoorXGf
namespace Go.X
set_option linter.unusedSimpArgs false
set_option linter.unusedVariables false

/-! ## Sums of bytes -/
def xsum {α : Type} (l : List α) (f : α → UInt8) : UInt8 := l.foldr (fun a s => f a ^^^ s) 0
section
variable {α β : Type} {l : List α} {f g : α → UInt8}
theorem xsum_nil : xsum ([] : List α) f = 0 := rfl
theorem xsum_cons {a : α} : xsum (a :: l) f = f a ^^^ xsum l f := rfl
theorem xsum_append {m : List α} : xsum (l ++ m) f = xsum l f ^^^ xsum m f := by
  induction l with
  | nil => rw [List.nil_append, xsum_nil, zero_xor8]
  | cons a l ih => rw [List.cons_append, xsum_cons, xsum_cons, ih, xor_assoc8]
theorem xor_four (a b c d : UInt8) : a ^^^ b ^^^ (c ^^^ d) = a ^^^ c ^^^ (b ^^^ d) := by
  rw [xor_assoc8, xor_assoc8, ← xor_assoc8 b, xor_comm8 b c, xor_assoc8]
theorem xsum_xor : xsum l (fun a => f a ^^^ g a) = xsum l f ^^^ xsum l g := by
  induction l with
  | nil => exact (xor_self8 0).symm
  | cons a l ih => rw [xsum_cons, xsum_cons, xsum_cons, ih, xor_four]
theorem xsum_mul (c : UInt8) : umul c (xsum l f) = xsum l fun a => umul c (f a) := by
  induction l with
  | nil => exact umul_zero c
  | cons a l ih => rw [xsum_cons, xsum_cons, umul_xor, ih]
theorem xsum_congr (h : ∀ a ∈ l, f a = g a) : xsum l f = xsum l g := by
  induction l with
  | nil => rfl
  | cons a l ih => rw [xsum_cons, xsum_cons, h a List.mem_cons_self, ih fun b hb => h b (List.mem_cons_of_mem _ hb)]
theorem xsum_zero (h : ∀ a ∈ l, f a = 0) : xsum l f = 0 := by
  induction l with
  | nil => rfl
  | cons a l ih => rw [xsum_cons, h a List.mem_cons_self, zero_xor8, ih fun b hb => h b (List.mem_cons_of_mem _ hb)]
theorem xsum_swap {m : List β} {F : α → β → UInt8} : xsum l (fun a => xsum m (F a)) = xsum m fun b => xsum l fun a => F a b := by
  induction l with
  | nil => exact (xsum_zero fun _ _ => rfl).symm
  | cons a l ih => rw [xsum_cons, ih, ← xsum_xor]; rfl
theorem xsum_filter {p : α → Bool} (h : ∀ a ∈ l, p a = false → f a = 0) : xsum l f = xsum (l.filter p) f := by
  induction l with
  | nil => rfl
  | cons a l ih =>
    have ih := ih fun b hb => h b (List.mem_cons_of_mem _ hb)
    rw [xsum_cons, ih, List.filter_cons]
    cases hp : p a with
    | true => rw [if_pos rfl, xsum_cons]
    | false => rw [if_neg (by simp), h a List.mem_cons_self hp, zero_xor8]
theorem xsum_map {m : List β} {t : β → α} : xsum (m.map t) f = xsum m fun b => f (t b) := by
  induction m with
  | nil => rfl
  | cons b m ih => rw [List.map_cons, xsum_cons, xsum_cons, ih]
theorem xsum_single {a : α} (hn : l.Nodup) (ha : a ∈ l) (h : ∀ b ∈ l, b ≠ a → f b = 0) : xsum l f = f a := by
  induction l with
  | nil => cases ha
  | cons b l ih =>
    obtain ⟨h1, h2⟩ := List.nodup_cons.1 hn
    rw [xsum_cons]
    rcases List.mem_cons.1 ha with rfl | ha'
    · rw [xsum_zero fun c hc => h c (List.mem_cons_of_mem _ hc) (fun e => h1 (e ▸ hc)), xor_zero8]
    · rw [h b List.mem_cons_self (fun e => h1 (e ▸ ha')), zero_xor8, ih h2 ha' fun c hc => h c (List.mem_cons_of_mem _ hc)]
end

/-! ## Cauchy's matrices -/
theorem uinv_zero : uinv 0 = 0 := by kernel_rfl
theorem uinv_ne {a : UInt8} (h : a ≠ 0) : uinv a ≠ 0 := fun e => by
  have := umul_inv h
  rw [e, umul_zero] at this
  exact absurd this (by decide)
theorem xor_ne {a b : UInt8} (h : a ≠ b) : a ^^^ b ≠ 0 := fun e => h (xor_eq_zero8.1 e)
theorem uinv_add {a b : UInt8} (ha : a ≠ 0) (hb : b ≠ 0) : uinv a ^^^ uinv b = umul (a ^^^ b) (umul (uinv a) (uinv b)) := by
  rw [xor_umul, umul_assoc, umul_inv ha, one_umul, umul_comm (uinv a) (uinv b), umul_assoc, umul_inv hb, one_umul, xor_comm8]
theorem xor_mid (x y z : UInt8) : (x ^^^ y) ^^^ (z ^^^ y) = x ^^^ z := by
  rw [xor_four, xor_self8, xor_zero8]
theorem cauchy_term {x x0 y y0 : UInt8} (ha : x ≠ y) (hb : x0 ≠ y) :
    umul (x ^^^ y0) (uinv (x ^^^ y)) ^^^ umul (x0 ^^^ y0) (uinv (x0 ^^^ y)) = umul (x ^^^ x0) (umul (uinv (x ^^^ y)) (umul (y0 ^^^ y) (uinv (x0 ^^^ y)))) := by
  have e1 : x ^^^ y0 = (x ^^^ y) ^^^ (y0 ^^^ y) := (xor_mid x y y0).symm
  have e2 : x0 ^^^ y0 = (x0 ^^^ y) ^^^ (y0 ^^^ y) := (xor_mid x0 y y0).symm
  have e3 : x ^^^ x0 = (x ^^^ y) ^^^ (x0 ^^^ y) := (xor_mid x y x0).symm
  have ha := xor_ne ha
  have hb := xor_ne hb
  generalize x ^^^ y = a at *
  generalize x0 ^^^ y = b at *
  generalize y0 ^^^ y = d at *
  rw [e1, e2, e3, xor_umul, xor_umul, umul_inv ha, umul_inv hb, xor_four, xor_self8, zero_xor8, ← umul_xor, uinv_add ha hb]
  rw [umul_assoc d, umul_comm d (a ^^^ b), ← umul_assoc (a ^^^ b) d, umul_assoc d (uinv a), umul_comm d (uinv a), ← umul_assoc (uinv a) d]
theorem cauchy : ∀ (ys xs : List UInt8) (v : UInt8 → UInt8), ys.Nodup → xs.Nodup → ys.length ≤ xs.length → (∀ x ∈ xs, ∀ y ∈ ys, x ≠ y) →
    (∀ x ∈ xs, xsum ys (fun y => umul (uinv (x ^^^ y)) (v y)) = 0) → ∀ y ∈ ys, v y = 0
  | [], _, _, _, _, _, _, _ => by simp
  | y0 :: ys, [], _, _, _, hl, _, _ => by simp at hl
  | y0 :: ys, x0 :: xs, v, hy, hx, hl, hne, hE => by
    obtain ⟨hy0, hy'⟩ := List.nodup_cons.1 hy
    obtain ⟨hx0, hx'⟩ := List.nodup_cons.1 hx
    have hS : ∀ x ∈ x0 :: xs, umul (x ^^^ y0) (xsum ys fun y => umul (uinv (x ^^^ y)) (v y)) = v y0 := by
      intro x hxm
      have h := hE x hxm
      rw [xsum_cons] at h
      have hn := xor_ne (hne x hxm y0 List.mem_cons_self)
      have h2 := xor_eq_zero8.1 h
      rw [← h2, umul_assoc, umul_inv hn, one_umul]
    have hv : ∀ y ∈ ys, umul (umul (y0 ^^^ y) (uinv (x0 ^^^ y))) (v y) = 0 := by
      refine cauchy ys xs (fun y => umul (umul (y0 ^^^ y) (uinv (x0 ^^^ y))) (v y)) hy' hx' (by simpa using hl) (fun x hxm y hym => hne x (List.mem_cons_of_mem _ hxm) y (List.mem_cons_of_mem _ hym)) ?_
      intro x hxm
      have h1 := hS x (List.mem_cons_of_mem _ hxm)
      have h2 := hS x0 List.mem_cons_self
      have h3 : umul (x ^^^ y0) (xsum ys fun y => umul (uinv (x ^^^ y)) (v y)) ^^^ umul (x0 ^^^ y0) (xsum ys fun y => umul (uinv (x0 ^^^ y)) (v y)) = 0 := by rw [h1, h2, xor_self8]
      rw [xsum_mul, xsum_mul, ← xsum_xor] at h3
      have h4 : xsum ys (fun y => umul (x ^^^ y0) (umul (uinv (x ^^^ y)) (v y)) ^^^ umul (x0 ^^^ y0) (umul (uinv (x0 ^^^ y)) (v y))) =
          xsum ys fun y => umul (x ^^^ x0) (umul (uinv (x ^^^ y)) (umul (umul (y0 ^^^ y) (uinv (x0 ^^^ y))) (v y))) := by
        refine xsum_congr fun y hym => ?_
        rw [umul_assoc, umul_assoc, ← xor_umul, cauchy_term (hne x (List.mem_cons_of_mem _ hxm) y (List.mem_cons_of_mem _ hym)) (hne x0 List.mem_cons_self y (List.mem_cons_of_mem _ hym))]
        rw [← umul_assoc, ← umul_assoc]
      rw [h4, ← xsum_mul] at h3
      exact umul_eq_zero (xor_ne fun (e : x = x0) => hx0 (e ▸ hxm)) h3
    have hv' : ∀ y ∈ ys, v y = 0 := fun y hym => by
      refine umul_eq_zero ?_ (hv y hym)
      intro e
      exact uinv_ne (xor_ne (hne x0 List.mem_cons_self y (List.mem_cons_of_mem _ hym))) (umul_eq_zero (xor_ne fun (e2 : y0 = y) => hy0 (e2 ▸ hym)) e)
    intro y hym
    rcases List.mem_cons.1 hym with rfl | hym
    · rw [← hS x0 List.mem_cons_self, xsum_zero fun z hz => by rw [hv' z hz, umul_zero], umul_zero]
    · exact hv' y hym

/-! ## The code's rows -/
def coef (k at_ j : Nat) : UInt8 := if k ≤ at_ then uinv (UInt8.ofNat (at_ ^^^ j)) else if at_ = j then 1 else 0
def crow (k at_ : Nat) : List UInt8 := (List.range k).map (coef k at_)
def crows (k n : Nat) : List (List UInt8) := (List.range n).map (crow k)
theorem crow_len (k a : Nat) : (crow k a).length = k := by simp [crow]
theorem crow_get {k a j : Nat} (h : j < k) : (crow k a).getD j 0 = coef k a j := by
  unfold crow
  rw [List.getD_eq_getElem?_getD, List.getElem?_map, List.getElem?_range h]
  rfl
theorem filt_split {α : Type} (p : α → Bool) : ∀ l : List α, (l.filter p).length + (l.filter fun a => !p a).length = l.length
  | [] => rfl
  | a :: l => by
    have := filt_split p l
    rw [List.filter_cons, List.filter_cons]
    cases p a <;> simp <;> omega
theorem nodup_sub {α : Type} [DecidableEq α] : ∀ {l m : List α}, l.Nodup → (∀ a ∈ l, a ∈ m) → l.length ≤ m.length
  | [], _, _, _ => by simp
  | a :: l, m, hn, h => by
    obtain ⟨h1, h2⟩ := List.nodup_cons.1 hn
    have ha := h a List.mem_cons_self
    have := nodup_sub (m := m.erase a) h2 fun b hb => (List.mem_erase_of_ne (fun (e : b = a) => h1 (e ▸ hb))).2 (h b (List.mem_cons_of_mem _ hb))
    rw [List.length_erase_of_mem ha] at this
    have := List.length_pos_of_mem ha
    simp only [List.length_cons]
    omega
def lin (k : Nat) (a : List UInt8) (v : Nat → UInt8) : UInt8 := xsum (List.range k) fun j => umul (a.getD j 0) (v j)
theorem lin_crow (k a : Nat) (v : Nat → UInt8) : lin k (crow k a) v = xsum (List.range k) fun j => umul (coef k a j) (v j) :=
  xsum_congr fun j hj => by rw [crow_get (List.mem_range.1 hj)]
theorem lin_unit {k a : Nat} (h : a < k) (v : Nat → UInt8) : lin k (crow k a) v = v a := by
  rw [lin_crow, xsum_single (a := a) List.nodup_range (List.mem_range.2 h)]
  · unfold coef
    rw [if_neg (by omega), if_pos rfl, one_umul]
  · intro b _ hb
    unfold coef
    rw [if_neg (by omega), if_neg (fun e => hb e.symm), zero_umul]
theorem ofNat_xor (a b : Nat) (ha : a < 256) (hb : b < 256) : UInt8.ofNat (a ^^^ b) = UInt8.ofNat a ^^^ UInt8.ofNat b := UInt8.toNat_inj.1 (by
  rw [UInt8.toNat_xor, u_of ha, u_of hb, u_of (xor_lt ha hb)])
/-- k unlike rows have nothing that they send to nought. -/
theorem crows_ker {k : Nat} {ats : List Nat} (hn : ats.Nodup) (hl : ats.length = k) (hk : k ≤ 256) (h : ∀ a ∈ ats, a < 256) {v : Nat → UInt8} (hz : ∀ a ∈ ats, lin k (crow k a) v = 0) : ∀ j, j < k → v j = 0 := by
  have h1 : ∀ j, j < k → j ∈ ats → v j = 0 := fun j hj hm => by rw [← lin_unit hj v]; exact hz j hm
  have hof : ∀ {a b : Nat}, a < 256 → b < 256 → UInt8.ofNat a = UInt8.ofNat b → a = b := fun ha hb e => by rw [← u_of ha, ← u_of hb, e]
  have hJ : ∀ j ∈ (List.range k).filter fun j => !decide (j ∈ ats), j < k ∧ j ∉ ats := fun j hj => by
    obtain ⟨a, b⟩ := List.mem_filter.1 hj
    exact ⟨List.mem_range.1 a, by simpa using b⟩
  have hR : ∀ a ∈ ats.filter fun a => decide (k ≤ a), a ∈ ats ∧ k ≤ a := fun a ha => by
    obtain ⟨x, y⟩ := List.mem_filter.1 ha
    exact ⟨x, by simpa using y⟩
  have ndm : ∀ (l : List Nat), l.Nodup → (∀ a ∈ l, a < 256) → (l.map UInt8.ofNat).Nodup := fun l hl hlt => by
    induction l with
    | nil => simp
    | cons a l ih =>
      obtain ⟨p, q⟩ := List.nodup_cons.1 hl
      rw [List.map_cons]
      refine List.nodup_cons.2 ⟨fun hm => ?_, ih q fun b hb => hlt b (List.mem_cons_of_mem _ hb)⟩
      obtain ⟨b, hb, e⟩ := List.mem_map.1 hm
      exact p (hof (hlt b (List.mem_cons_of_mem _ hb)) (hlt a List.mem_cons_self) e ▸ hb)
  have key := cauchy (((List.range k).filter fun j => !decide (j ∈ ats)).map UInt8.ofNat) ((ats.filter fun a => decide (k ≤ a)).map UInt8.ofNat) (fun y => v y.toNat)
    (ndm _ (List.nodup_range.filter _) fun a ha => by have := (hJ a ha).1; omega) (ndm _ (hn.filter _) fun a ha => h a (hR a ha).1) ?_ ?_ ?_
  · intro j hj
    by_cases hm : j ∈ ats
    · exact h1 j hj hm
    · have := key (UInt8.ofNat j) (List.mem_map_of_mem (List.mem_filter.2 ⟨List.mem_range.2 hj, by simpa using hm⟩))
      rwa [u_of (by omega)] at this
  · rw [List.length_map, List.length_map]
    have e1 : (ats.filter fun a => decide (k ≤ a)).length + (ats.filter fun a => !decide (k ≤ a)).length = ats.length := by
      exact filt_split (fun a => decide (k ≤ a)) ats
    have e2 : ((List.range k).filter fun j => !decide (j ∈ ats)).length + ((List.range k).filter fun j => decide (j ∈ ats)).length = k := by
      have := filt_split (fun j => decide (j ∈ ats)) (List.range k)
      rw [List.length_range] at this
      omega
    have e3 : (ats.filter fun a => !decide (k ≤ a)).length ≤ ((List.range k).filter fun j => decide (j ∈ ats)).length := nodup_sub (hn.filter _) fun a ha => by
      obtain ⟨x, y⟩ := List.mem_filter.1 ha
      exact List.mem_filter.2 ⟨List.mem_range.2 (by simpa using y), by simpa using x⟩
    omega
  · intro x hx y hy e
    obtain ⟨a, ha, rfl⟩ := List.mem_map.1 hx
    obtain ⟨b, hb, rfl⟩ := List.mem_map.1 hy
    have h2 := hJ b hb
    have h3 := hR a ha
    have := hof (h a h3.1) (by omega) e
    omega
  · intro x hx
    obtain ⟨a, ha, rfl⟩ := List.mem_map.1 hx
    obtain ⟨h3, h4⟩ := hR a ha
    have := hz a h3
    rw [lin_crow, xsum_filter (p := fun j => !decide (j ∈ ats)) (fun j hj hp => by rw [h1 j (List.mem_range.1 hj) (by simpa using hp), umul_zero])] at this
    rw [xsum_map, ← this]
    refine xsum_congr fun j hj => ?_
    have hjk := (hJ j hj).1
    rw [u_of (show j < 256 by omega), ← ofNat_xor a j (h a h3) (by omega)]
    unfold coef
    rw [if_pos h4]

/-! ## Rows added, rows scaled -/
def mulAdd (a b : List UInt8) (x : UInt8) : List UInt8 := List.zipWith (fun u v => u ^^^ umul x v) a b
def scl (a : List UInt8) (x : UInt8) : List UInt8 := a.map fun u => umul u x
theorem mulAdd_len {a b : List UInt8} (h : a.length = b.length) (x : UInt8) : (mulAdd a b x).length = a.length := by
  unfold mulAdd
  rw [List.length_zipWith]
  omega
theorem mulAdd_get {a b : List UInt8} (h : a.length = b.length) (x : UInt8) (j : Nat) : (mulAdd a b x).getD j 0 = a.getD j 0 ^^^ umul x (b.getD j 0) := by
  unfold mulAdd
  rw [List.getD_eq_getElem?_getD, List.getD_eq_getElem?_getD, List.getD_eq_getElem?_getD, List.getElem?_zipWith]
  by_cases hj : j < a.length
  · rw [List.getElem?_eq_getElem hj, List.getElem?_eq_getElem (h ▸ hj)]
    rfl
  · rw [List.getElem?_eq_none (by omega), List.getElem?_eq_none (by omega)]
    show (0 : UInt8) = 0 ^^^ umul x 0
    rw [umul_zero, xor_zero8]
theorem ext8 {a b : List UInt8} (hl : a.length = b.length) (h : ∀ j, j < a.length → a.getD j 0 = b.getD j 0) : a = b := by
  refine List.ext_getElem hl fun j h1 h2 => ?_
  have := h j h1
  rwa [List.getD_eq_getElem?_getD, List.getD_eq_getElem?_getD, List.getElem?_eq_getElem h1, List.getElem?_eq_getElem h2] at this
theorem mulAdd_zero {a b : List UInt8} (h : a.length = b.length) : mulAdd a b 0 = a :=
  ext8 (mulAdd_len h 0) fun j _ => by rw [mulAdd_get h, zero_umul, xor_zero8]
theorem scl_len (a : List UInt8) (x : UInt8) : (scl a x).length = a.length := List.length_map _
theorem scl_get (a : List UInt8) (x : UInt8) (j : Nat) : (scl a x).getD j 0 = umul x (a.getD j 0) := by
  unfold scl
  rw [List.getD_eq_getElem?_getD, List.getD_eq_getElem?_getD, List.getElem?_map]
  cases a[j]? with
  | none => exact (umul_zero x).symm
  | some u => exact umul_comm u x
theorem lin_mulAdd {k : Nat} {a b : List UInt8} (h : a.length = b.length) (x : UInt8) (v : Nat → UInt8) : lin k (mulAdd a b x) v = lin k a v ^^^ umul x (lin k b v) := by
  unfold lin
  rw [xsum_mul, ← xsum_xor]
  exact xsum_congr fun j _ => by rw [mulAdd_get h, xor_umul, umul_assoc]
theorem lin_scl (k : Nat) (a : List UInt8) (x : UInt8) (v : Nat → UInt8) : lin k (scl a x) v = umul x (lin k a v) := by
  unfold lin
  rw [xsum_mul]
  exact xsum_congr fun j _ => by rw [scl_get, umul_assoc]
theorem lin_xor (k : Nat) (a : List UInt8) (v u : Nat → UInt8) : lin k a (fun j => v j ^^^ u j) = lin k a v ^^^ lin k a u := by
  unfold lin
  rw [← xsum_xor]
  exact xsum_congr fun j _ => umul_xor _ _ _
theorem lin_congr {k : Nat} {a : List UInt8} {v u : Nat → UInt8} (h : ∀ j, j < k → v j = u j) : lin k a v = lin k a u :=
  xsum_congr fun j hj => by rw [h j (List.mem_range.1 hj)]

/-! ## Gauss and Jordan -/
abbrev Rpr := List UInt8 × List UInt8
structure Gs (k s : Nat) (R : Nat → Rpr) : Prop where
  l1 : ∀ t, t < k → (R t).1.length = k
  l2 : ∀ t, t < k → (R t).2.length = s
def Sol (k s : Nat) (X : Nat → List UInt8) (R : Nat → Rpr) : Prop := ∀ t, t < k → ∀ y, y < s → (R t).2.getD y 0 = lin k (R t).1 fun j => (X j).getD y 0
def Ker (k : Nat) (R : Nat → Rpr) : Prop := ∀ v : Nat → UInt8, (∀ t, t < k → lin k (R t).1 v = 0) → ∀ j, j < k → v j = 0
def Uni (k c : Nat) (R : Nat → Rpr) : Prop := ∀ t, t < k → ∀ j, j < c → (R t).1.getD j 0 = if t = j then 1 else 0
def swpF (R : Nat → Rpr) (c p : Nat) : Nat → Rpr := fun t => R (if t = p then c else if t = c then p else t)
def sclF (R : Nat → Rpr) (c : Nat) (x : UInt8) : Nat → Rpr := fun t => if t = c then (scl (R c).1 x, scl (R c).2 x) else R t
def addP (q r : Rpr) (c : Nat) : Rpr := (mulAdd q.1 r.1 (q.1.getD c 0), mulAdd q.2 r.2 (q.1.getD c 0))
def elimF (R : Nat → Rpr) (c n : Nat) : Nat → Rpr := fun t => if t = c ∨ n ≤ t then R t else addP (R t) (R c) c
section
variable {k s c p : Nat} {R : Nat → Rpr} {X Y : Nat → List UInt8} {x : UInt8}
theorem pivot_ex (hu : Uni k c R) (hk : Ker k R) (hc : c < k) : ∃ t, c ≤ t ∧ t < k ∧ (R t).1.getD c 0 ≠ 0 := by
  rcases Classical.em (∃ t, c ≤ t ∧ t < k ∧ (R t).1.getD c 0 ≠ 0) with h | h
  · exact h
  exfalso
  have hz : ∀ t, c ≤ t → t < k → (R t).1.getD c 0 = 0 := fun t h1 h2 => Classical.byContradiction fun hne => h ⟨t, h1, h2, hne⟩
  have := hk (fun j => if j = c then 1 else if j < c then (R j).1.getD c 0 else 0) (fun t ht => ?_) c hc
  · simp at this
  unfold lin
  have e : ∀ j ∈ List.range k, umul ((R t).1.getD j 0) (if j = c then 1 else if j < c then (R j).1.getD c 0 else 0) =
      (if j = c then (R t).1.getD c 0 else 0) ^^^ (if j = t then (if t < c then (R t).1.getD c 0 else 0) else 0) := by
    intro j hj
    by_cases h1 : j = c
    · subst h1
      rw [if_pos rfl, if_pos rfl, umul_one]
      by_cases h2 : j = t
      · subst h2
        rw [if_pos rfl, if_neg (by omega), xor_zero8]
      · rw [if_neg h2, xor_zero8]
    · rw [if_neg h1, if_neg h1, zero_xor8]
      by_cases h2 : j < c
      · rw [if_pos h2, hu t ht j h2]
        by_cases h3 : t = j
        · subst h3
          rw [if_pos rfl, if_pos rfl, if_pos h2, one_umul]
        · rw [if_neg h3, if_neg (fun e => h3 e.symm), zero_umul]
      · rw [if_neg h2, umul_zero]
        by_cases h3 : j = t
        · subst h3
          rw [if_pos rfl, if_neg (by omega)]
        · rw [if_neg h3]
  rw [xsum_congr e, xsum_xor, xsum_single (a := c) List.nodup_range (List.mem_range.2 hc) (fun b _ hb => if_neg hb), xsum_single (a := t) List.nodup_range (List.mem_range.2 ht) (fun b _ hb => if_neg hb), if_pos rfl, if_pos rfl]
  by_cases h2 : t < c
  · rw [if_pos h2, xor_self8]
  · rw [if_neg h2, hz t (by omega) ht, xor_zero8]
/-! Two rows change places. -/
theorem swp_idx (hc : c < k) (hp : p < k) {t : Nat} (ht : t < k) : ∃ u, u < k ∧ swpF R c p u = R t := by
  unfold swpF
  by_cases h1 : t = c
  · exact ⟨p, hp, by rw [if_pos rfl, h1]⟩
  · by_cases h2 : t = p
    · refine ⟨c, hc, ?_⟩
      by_cases h3 : c = p
      · exact absurd (h2.trans h3.symm) h1
      · rw [if_neg h3, if_pos rfl, h2]
    · exact ⟨t, ht, by rw [if_neg h2, if_neg h1]⟩
theorem swp_to (hc : c < k) (hp : p < k) {t : Nat} (ht : t < k) : ∃ u, u < k ∧ swpF R c p t = R u := by
  unfold swpF
  by_cases h1 : t = p
  · exact ⟨c, hc, by rw [if_pos h1]⟩
  · by_cases h2 : t = c
    · exact ⟨p, hp, by rw [if_neg h1, if_pos h2]⟩
    · exact ⟨t, ht, by rw [if_neg h1, if_neg h2]⟩
theorem Gs.swp (h : Gs k s R) (hc : c < k) (hp : p < k) : Gs k s (swpF R c p) :=
  ⟨fun t ht => by obtain ⟨u, hu, e⟩ := swp_to (R := R) hc hp ht; rw [e]; exact h.l1 u hu, fun t ht => by obtain ⟨u, hu, e⟩ := swp_to (R := R) hc hp ht; rw [e]; exact h.l2 u hu⟩
theorem Sol.unswp (h : Sol k s X (swpF R c p)) (hc : c < k) (hp : p < k) : Sol k s X R := fun t ht => by
  obtain ⟨u, hu, e⟩ := swp_idx (R := R) hc hp ht
  rw [← e]; exact h u hu
theorem Ker.swp (h : Ker k R) (hc : c < k) (hp : p < k) : Ker k (swpF R c p) := fun v hv => h v fun t ht => by
  obtain ⟨u, hu, e⟩ := swp_idx (R := R) hc hp ht
  rw [← e]; exact hv u hu
theorem Uni.swp (h : Uni k c R) (hc : c < k) (hp : p < k) (hcp : c ≤ p) : Uni k c (swpF R c p) := fun t ht j hj => by
  unfold swpF
  by_cases h1 : t = p
  · rw [if_pos h1, h c hc j hj, if_neg (by omega), if_neg (by omega)]
  · rw [if_neg h1]
    by_cases h2 : t = c
    · rw [if_pos h2, h p hp j hj, if_neg (by omega), if_neg (by omega)]
    · rw [if_neg h2]; exact h t ht j hj
theorem swp_at : swpF R c p c = R p := by
  unfold swpF
  by_cases h : c = p
  · rw [if_pos h, h]
  · rw [if_neg h, if_pos rfl]
/-! One row is scaled. -/
theorem scl_at : sclF R c x c = (scl (R c).1 x, scl (R c).2 x) := if_pos rfl
theorem scl_else {t : Nat} (h : t ≠ c) : sclF R c x t = R t := if_neg h
theorem Gs.scl (h : Gs k s R) : Gs k s (sclF R c x) := ⟨fun t ht => by
    by_cases e : t = c
    · subst e; rw [scl_at, scl_len]; exact h.l1 t ht
    · rw [scl_else e]; exact h.l1 t ht, fun t ht => by
    by_cases e : t = c
    · subst e; rw [scl_at, scl_len]; exact h.l2 t ht
    · rw [scl_else e]; exact h.l2 t ht⟩
theorem umul_cancel {x a b : UInt8} (hx : x ≠ 0) (h : umul x a = umul x b) : a = b := by
  have : umul x (a ^^^ b) = 0 := by rw [umul_xor, h, xor_self8]
  exact xor_eq_zero8.1 (umul_eq_zero hx this)
theorem Sol.unscl (h : Sol k s X (sclF R c x)) (hx : x ≠ 0) : Sol k s X R := fun t ht y hy => by
  have := h t ht y hy
  by_cases e : t = c
  · subst e
    rw [scl_at, scl_get, lin_scl] at this
    exact umul_cancel hx this
  · rwa [scl_else e] at this
theorem Ker.scl (h : Ker k R) (hx : x ≠ 0) : Ker k (sclF R c x) := fun v hv => h v fun t ht => by
  have := hv t ht
  by_cases e : t = c
  · subst e
    rw [scl_at, lin_scl] at this
    exact umul_eq_zero hx this
  · rwa [scl_else e] at this
theorem Uni.scl (h : Uni k c R) : Uni k c (sclF R c x) := fun t ht j hj => by
  by_cases e : t = c
  · subst e
    rw [scl_at, scl_get, h t ht j hj, if_neg (by omega), umul_zero]
  · rw [scl_else e]; exact h t ht j hj
/-! One column is cleared. -/
theorem elim_at (n : Nat) : elimF R c n c = R c := if_pos (.inl rfl)
theorem elim_to {n t : Nat} (h1 : t ≠ c) (h2 : t < n) : elimF R c n t = addP (R t) (R c) c := if_neg (by omega)
theorem elim_from {n t : Nat} (h : n ≤ t) : elimF R c n t = R t := if_pos (.inr h)
theorem Gs.elim (h : Gs k s R) (hc : c < k) (n : Nat) : Gs k s (elimF R c n) := by
  have key : ∀ t, t < k → (elimF R c n t).1.length = k ∧ (elimF R c n t).2.length = s := fun t ht => by
    by_cases e : t = c ∨ n ≤ t
    · rw [show elimF R c n t = R t from if_pos e]; exact ⟨h.l1 t ht, h.l2 t ht⟩
    · rw [show elimF R c n t = addP (R t) (R c) c from if_neg e]
      unfold addP
      rw [mulAdd_len (by rw [h.l1 t ht, h.l1 c hc]), mulAdd_len (by rw [h.l2 t ht, h.l2 c hc])]
      exact ⟨h.l1 t ht, h.l2 t ht⟩
  exact ⟨fun t ht => (key t ht).1, fun t ht => (key t ht).2⟩
theorem xor_cancel {a b d : UInt8} (h : a ^^^ d = b ^^^ d) : a = b := by
  have : a ^^^ d ^^^ d = b ^^^ d ^^^ d := by rw [h]
  rwa [xor_assoc8, xor_self8, xor_zero8, xor_assoc8, xor_self8, xor_zero8] at this
theorem Sol.unelim (h : Sol k s X (elimF R c k)) (hg : Gs k s R) (hc : c < k) : Sol k s X R := fun t ht y hy => by
  have h0 := h c hc y hy
  rw [elim_at] at h0
  have := h t ht y hy
  by_cases e : t = c
  · rw [e]; exact h0
  · rw [elim_to e ht] at this
    unfold addP at this
    simp only at this
    rw [mulAdd_get (by rw [hg.l2 t ht, hg.l2 c hc]), lin_mulAdd (by rw [hg.l1 t ht, hg.l1 c hc]), h0] at this
    exact xor_cancel this
theorem Ker.elim (h : Ker k R) (hg : Gs k s R) (hc : c < k) : Ker k (elimF R c k) := fun v hv => h v fun t ht => by
  have h0 := hv c hc
  rw [elim_at] at h0
  have := hv t ht
  by_cases e : t = c
  · rw [e]; exact h0
  · rw [elim_to e ht] at this
    unfold addP at this
    simp only at this
    rwa [lin_mulAdd (by rw [hg.l1 t ht, hg.l1 c hc]), h0, umul_zero, xor_zero8] at this
theorem Uni.elim (h : Uni k c R) (hg : Gs k s R) (hc : c < k) (h1 : (R c).1.getD c 0 = 1) : Uni k (c + 1) (elimF R c k) := fun t ht j hj => by
  by_cases e : t = c
  · subst e
    rw [elim_at]
    by_cases ej : j = t
    · rw [ej, h1, if_pos rfl]
    · exact h t ht j (by omega)
  · rw [elim_to e ht]
    unfold addP
    simp only
    rw [mulAdd_get (by rw [hg.l1 t ht, hg.l1 c hc])]
    by_cases ej : j = c
    · subst ej
      rw [h1, umul_one, xor_self8, if_neg e]
    · rw [h t ht j (by omega), h c hc j (by omega), if_neg (show ¬ c = j by omega), umul_zero, xor_zero8]
/-! The end. -/
theorem Uni.sol (h : Uni k k R) : Sol k s (fun j => (R j).2) R := fun t ht y _ => by
  unfold lin
  rw [xsum_single (a := t) List.nodup_range (List.mem_range.2 ht) fun b hb hbt => by
    rw [h t ht b (List.mem_range.1 hb), if_neg (fun e => hbt e.symm), zero_umul], h t ht t ht, if_pos rfl, one_umul]
theorem Sol.uniq (hk : Ker k R) (hX : Sol k s X R) (hY : Sol k s Y R) : ∀ j, j < k → ∀ y, y < s → (X j).getD y 0 = (Y j).getD y 0 := fun j hj y hy => by
  refine xor_eq_zero8.1 (hk (fun j => (X j).getD y 0 ^^^ (Y j).getD y 0) (fun t ht => ?_) j hj)
  rw [lin_xor, ← hX t ht y hy, ← hY t ht y hy, xor_self8]
end

/-! ## Fragments -/
/-- What a row makes of blocks. -/
def mixP (r : List UInt8) (B : List (List UInt8)) (s : Nat) : List UInt8 := (List.range s).map fun y => lin B.length r fun j => (B.getD j []).getD y 0
theorem mixP_len (r : List UInt8) (B : List (List UInt8)) (s : Nat) : (mixP r B s).length = s := by simp [mixP]
theorem mixP_get {r : List UInt8} {B : List (List UInt8)} {s y : Nat} (h : y < s) : (mixP r B s).getD y 0 = lin B.length r fun j => (B.getD j []).getD y 0 := by
  unfold mixP
  rw [List.getD_eq_getElem?_getD, List.getElem?_map, List.getElem?_range h]
  rfl
/-- The first m blocks, one behind the other. -/
def mixU (r : List UInt8) (B : List (List UInt8)) (s m : Nat) : List UInt8 := (List.range s).map fun y => xsum (List.range m) fun j => umul (r.getD j 0) ((B.getD j []).getD y 0)
theorem mixU_zero (r : List UInt8) (B : List (List UInt8)) (s : Nat) : mixU r B s 0 = List.replicate s 0 := by
  unfold mixU
  rw [List.eq_replicate_iff]
  refine ⟨by simp, fun b hb => ?_⟩
  obtain ⟨y, _, rfl⟩ := List.mem_map.1 hb
  rfl
theorem mixU_len (r : List UInt8) (B : List (List UInt8)) (s m : Nat) : (mixU r B s m).length = s := by simp [mixU]
theorem mixU_get {r : List UInt8} {B : List (List UInt8)} {s m y : Nat} (h : y < s) : (mixU r B s m).getD y 0 = xsum (List.range m) fun j => umul (r.getD j 0) ((B.getD j []).getD y 0) := by
  unfold mixU
  rw [List.getD_eq_getElem?_getD, List.getElem?_map, List.getElem?_range h]
  rfl
theorem mixU_succ {r : List UInt8} {B : List (List UInt8)} {s m : Nat} (h : (B.getD m []).length = s) : mulAdd (mixU r B s m) (B.getD m []) (r.getD m 0) = mixU r B s (m + 1) := by
  have hl : (mixU r B s m).length = (B.getD m []).length := by rw [mixU_len, h]
  refine ext8 (by rw [mulAdd_len hl, mixU_len, mixU_len]) fun y hy => ?_
  rw [mulAdd_len hl, mixU_len] at hy
  rw [mulAdd_get hl, mixU_get hy, mixU_get hy, List.range_succ, xsum_append, xsum_cons, xsum_nil, xor_zero8]
theorem mixU_all (r : List UInt8) (B : List (List UInt8)) (s : Nat) : mixU r B s B.length = mixP r B s := rfl
end Go.X
