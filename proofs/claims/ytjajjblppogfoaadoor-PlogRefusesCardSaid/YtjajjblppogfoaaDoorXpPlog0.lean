import Derived.Test.YtjajjblppogfoaaDoorXpIdx3
import Derived.Test.YtjajjblppogfoaaDoorXpFaultPO
import Derived.Test.YtjajjblppogfoaaDoorXB
namespace Go.Proofs.YtjajjblppogfoaaDoor
set_option linter.unusedSimpArgs false
set_option linter.unusedVariables false
set_option maxRecDepth 100000
attribute [local irreducible] Go.X.xE
open Go Go.X

/-! ## The log, with no program in sight -/
structure Lg where
  hs : List Hd
  start : Int
  next : Int
def endOf (hs : List Hd) (i : Nat) (e : Int) : Int := match hs[i]? with
  | some h => h.base
  | none => e
/-- One head ends where the next begins; the last at e. -/
def Gap (hs : List Hd) (e : Int) : Prop := (∀ h ∈ hs, 0 ≤ h.base ∧ 1 ≤ h.count) ∧ ∀ i h, hs[i]? = some h → h.base + h.count = endOf hs (i + 1) e
theorem Gap.nil (e : Int) : Gap [] e := ⟨fun h hm => (by simp at hm), fun i h hi => by simp at hi⟩
theorem Gap.drop {hs : List Hd} {e : Int} (h : Gap hs e) (k : Nat) : Gap (hs.drop k) e := by
  refine ⟨fun x hx => h.1 x (List.mem_of_mem_drop hx), fun i x hi => ?_⟩
  rw [List.getElem?_drop] at hi
  rw [h.2 _ x hi]
  unfold endOf
  rw [List.getElem?_drop, Nat.add_assoc]
theorem Gap.snoc {hs : List Hd} {e : Int} (h : Gap hs e) {x : Hd} (hb : x.base = e) (h0 : 0 ≤ e) (h1 : 1 ≤ x.count) : Gap (hs ++ [x]) (e + x.count) := by
  refine ⟨fun y hy => ?_, fun i y hi => ?_⟩
  · rcases List.mem_append.1 hy with hy | hy
    · exact h.1 y hy
    · simp at hy; subst hy; exact ⟨by omega, h1⟩
  · unfold endOf
    rcases Nat.lt_trichotomy (i + 1) hs.length with hl | hl | hl
    · rw [List.getElem?_append_left (by omega)] at hi
      rw [List.getElem?_append_left hl, h.2 i y hi]
      unfold endOf
      rw [List.getElem?_eq_getElem hl]
    · rw [List.getElem?_append_left (by omega)] at hi
      rw [List.getElem?_append_right (by omega), show i + 1 - hs.length = 0 by omega]
      have := h.2 i y hi
      unfold endOf at this
      rw [List.getElem?_eq_none (by omega)] at this
      simp only [List.getElem?_cons_zero]
      simp only at this
      omega
    · have hil : i < (hs ++ [x]).length := (List.getElem?_eq_some_iff.1 hi).1
      rw [List.length_append, List.length_singleton] at hil
      rw [List.getElem?_append_right (by omega), show i - hs.length = 0 by omega] at hi
      simp at hi
      subst hi
      rw [List.getElem?_eq_none (by rw [List.length_append, List.length_singleton]; omega)]
      simp only
      omega
theorem Gap.le {hs : List Hd} {e : Int} (h : Gap hs e) : ∀ (j i : Nat) (x y : Hd), i < j → hs[i]? = some x → hs[j]? = some y → x.base + x.count ≤ y.base := by
  intro j
  induction j with
  | zero => intro i x y hij; omega
  | succ j ih =>
    intro i x y hij hx hy
    have hjl : j + 1 < hs.length := (List.getElem?_eq_some_iff.1 hy).1
    have hz : hs[j]? = some hs[j] := List.getElem?_eq_getElem (by omega)
    have h1 := h.2 j _ hz
    unfold endOf at h1
    rw [hy] at h1
    simp only at h1
    rcases Nat.lt_or_ge i j with hlt | hge
    · have h2 := ih i x _ hlt hx hz
      have h3 := h.1 _ (List.mem_of_getElem? hz)
      omega
    · have : i = j := by omega
      subst this
      rw [hx] at hz
      cases hz
      omega
theorem Gap.last {hs : List Hd} {e : Int} (h : Gap hs e) {x : Hd} (hx : hs[hs.length - 1]? = some x) : x.base + x.count = e := by
  have hl := (List.getElem?_eq_some_iff.1 hx).1
  have := h.2 _ x hx
  unfold endOf at this
  rw [List.getElem?_eq_none (by omega)] at this
  exact this
theorem Gap.end_le {hs : List Hd} {e : Int} (h : Gap hs e) {x : Hd} (hx : x ∈ hs) : x.base + x.count ≤ e := by
  obtain ⟨i, hi, rfl⟩ := List.mem_iff_getElem.1 hx
  have hlast : hs[hs.length - 1]? = some (hs[hs.length - 1]'(by omega)) := List.getElem?_eq_getElem _
  have h1 := h.last hlast
  rcases Nat.lt_or_ge i (hs.length - 1) with hlt | hge
  · have h2 := h.le _ i _ _ hlt (List.getElem?_eq_getElem hi) hlast
    have h3 := h.1 _ (List.mem_of_getElem? hlast)
    omega
  · have e2 : i = hs.length - 1 := by omega
    subst e2
    omega
theorem Gap.sorted {hs : List Hd} {e : Int} (h : Gap hs e) : Sorted hs := fun i j x y hij hx hy => h.le j i x y hij hx hy
theorem Gap.ranged {hs : List Hd} {e : Int} (h : Gap hs e) (he : e ≤ 9223372036854775807) : Ranged hs := fun x hx => by
  have := h.1 x hx; have := h.end_le hx; omega
structure Lg.Ok (L : Lg) : Prop where
  s0 : 0 ≤ L.start
  sn : L.start ≤ L.next
  nm : L.next ≤ 9223372036854775807
  gap : Gap L.hs L.next
  nil : L.hs = [] → L.start = L.next
  first : ∀ h, L.hs[0]? = some h → h.base ≤ L.start ∧ L.start < h.base + h.count
def opPA : ByteArray := ⟨#[112, 108, 111, 103, 46, 65, 100, 100]⟩
def opPF : ByteArray := ⟨#[112, 108, 111, 103, 46, 70, 114, 111, 109]⟩
def opPT : ByteArray := ⟨#[112, 108, 111, 103, 46, 84, 114, 105, 109]⟩
def opPN : ByteArray := ⟨#[112, 108, 111, 103, 46, 78, 101, 119]⟩
def pErr (op : ByteArray) (k : Int) : Option Er := some (.flt op 0 (.no k))
def addBad (c t s e : Int) : Bool := decide (c < 1 ∨ 8 < c ∨ ¬ (0 ≤ t ∧ t ≤ 1125899906842624) ∨ s < 0 ∨ e < 0)
/-- the number of an error, or 0 -/
def Lg.addK (L : Lg) (c t s e : Int) : Int := if addBad c t s e then 1 else if 9223372036854775807 - L.next < c then 13 else 0
def Lg.add (L : Lg) (c t s e : Int) : Lg := if L.addK c t s e = 0 then ⟨L.hs ++ [⟨L.next, c, t, s, e⟩], L.start, L.next + c⟩ else L
def Lg.seek (L : Lg) (o : Int) : List Hd := L.hs.drop (L.hs.findIdx (has o))
def Lg.fromK (L : Lg) (o : Int) : Int := if o < L.start ∨ L.next < o then 13 else 0
def Lg.from (L : Lg) (o : Int) : List Hd := if L.fromK o = 0 then L.seek o else []
def Lg.trimK (L : Lg) (o : Int) : Int := if 0 ≤ o ∧ o ≤ L.next then 0 else 13
def Lg.trim (L : Lg) (o : Int) : Lg := if L.trimK o = 0 ∧ L.start < o then ⟨L.seek o, o, L.next⟩ else L
def Lg.drop1 (L : Lg) : Lg := match L.hs with
  | [] => L
  | h :: hs => ⟨hs, h.base + h.count, L.next⟩
def erOp (op : ByteArray) (k : Int) : Option Er := if k = 0 then none else pErr op k
theorem Lg.add_ok {L : Lg} (h : L.Ok) (c t s e : Int) : (L.add c t s e).Ok := by
  unfold Lg.add
  split
  · rename_i hk
    unfold Lg.addK at hk
    split at hk
    · cases hk
    · rename_i hb
      split at hk
      · cases hk
      · rename_i hc
        unfold addBad at hb
        simp at hb
        have h1 := h.s0; have h2 := h.sn; have h3 := h.nm
        refine ⟨h.s0, by show L.start ≤ L.next + c; omega, by show L.next + c ≤ _; omega, h.gap.snoc (x := ⟨L.next, c, t, s, e⟩) rfl (by omega) (by show 1 ≤ c; omega), fun hh => by simp at hh, fun x hx => ?_⟩
        cases hl : L.hs with
        | nil =>
          have hx' : (L.hs ++ [⟨L.next, c, t, s, e⟩])[0]? = some x := hx
          rw [hl] at hx'
          simp at hx'
          subst hx'
          have := h.nil hl
          show L.next ≤ L.start ∧ L.start < L.next + c
          omega
        | cons y ys =>
          have hx' : (L.hs ++ [⟨L.next, c, t, s, e⟩])[0]? = some x := hx
          rw [hl] at hx'
          simp at hx'
          subst hx'
          exact h.first y (by rw [hl]; rfl)
  · exact h
theorem seek_first {L : Lg} (h : L.Ok) {o : Int} (h1 : L.start ≤ o) {x : Hd} (hx : (L.seek o)[0]? = some x) : x.base ≤ o ∧ o < x.base + x.count := by
  unfold Lg.seek at hx
  rw [List.getElem?_drop, Nat.add_zero] at hx
  have hl := (List.getElem?_eq_some_iff.1 hx).1
  have hp := List.findIdx_getElem (w := hl)
  rw [(List.getElem?_eq_some_iff.1 hx).2] at hp
  unfold has at hp
  simp at hp
  refine ⟨?_, by omega⟩
  rcases Nat.eq_zero_or_pos (L.hs.findIdx (has o)) with h0 | h0
  · rw [h0] at hx
    have := (h.first x hx).1
    omega
  · have hprev : has o (L.hs[L.hs.findIdx (has o) - 1]'(by omega)) = false := List.not_of_lt_findIdx (by omega)
    have hz : L.hs[L.hs.findIdx (has o) - 1]? = some (L.hs[L.hs.findIdx (has o) - 1]'(by omega)) := List.getElem?_eq_getElem (by omega)
    generalize (L.hs[L.hs.findIdx (has o) - 1]'(by omega)) = y at *
    have hg := h.gap.2 _ _ hz
    unfold endOf at hg
    rw [show L.hs.findIdx (has o) - 1 + 1 = L.hs.findIdx (has o) by omega, hx] at hg
    have hg : y.base + y.count = x.base := hg
    unfold has at hprev
    have hprev := of_decide_eq_false hprev
    omega
theorem seek_nil {L : Lg} (h : L.Ok) {o : Int} (h1 : L.start ≤ o) (h2 : o ≤ L.next) (hx : L.seek o = []) : o = L.next := by
  unfold Lg.seek at hx
  rw [List.drop_eq_nil_iff] at hx
  cases hl : L.hs with
  | nil => have := h.nil hl; omega
  | cons y ys =>
    have hlen : 0 < L.hs.length := by rw [hl]; simp
    have hz : L.hs[L.hs.length - 1]? = some (L.hs[L.hs.length - 1]'(by omega)) := List.getElem?_eq_getElem (by omega)
    have hlast := h.gap.last hz
    have hn : has o (L.hs[L.hs.length - 1]'(by omega)) = false := List.not_of_lt_findIdx (by omega)
    unfold has at hn
    simp at hn
    omega
theorem Lg.trim_ok {L : Lg} (h : L.Ok) (o : Int) : (L.trim o).Ok := by
  unfold Lg.trim
  split
  · rename_i hk
    obtain ⟨hk, hlt⟩ := hk
    unfold Lg.trimK at hk
    split at hk
    · rename_i ho
      have h1 := h.s0; have h2 := h.sn; have h3 := h.nm
      exact ⟨ho.1, ho.2, h3, h.gap.drop _, fun hn => seek_nil (o := o) h (by omega) ho.2 hn, fun x hx => seek_first (o := o) h (by omega) hx⟩
    · cases hk
  · exact h
theorem Lg.drop1_ok {L : Lg} (h : L.Ok) : L.drop1.Ok := by
  unfold Lg.drop1
  split
  · exact h
  · rename_i y ys hl
    have h1 := h.s0; have h2 := h.sn; have h3 := h.nm
    have hy := h.gap.1 y (by rw [hl]; simp)
    have he := h.gap.end_le (x := y) (by rw [hl]; simp)
    have hgd := h.gap.drop 1
    rw [hl] at hgd
    simp only [List.drop_succ_cons, List.drop_zero] at hgd
    have hg0 := h.gap.2 0 y (by rw [hl]; rfl)
    unfold endOf at hg0
    rw [hl] at hg0
    refine ⟨by show 0 ≤ y.base + y.count; omega, he, h3, hgd, fun hn => ?_, fun x hx => ?_⟩
    · have hn : ys = [] := hn
      subst hn
      exact hg0
    · have hx : ys[0]? = some x := hx
      have hx' : (y :: ys)[0 + 1]? = some x := by simpa using hx
      rw [hx'] at hg0
      simp only at hg0
      have := h.gap.1 x (by rw [hl]; exact List.mem_cons_of_mem _ (List.mem_of_getElem? hx))
      show x.base ≤ y.base + y.count ∧ y.base + y.count < x.base + x.count
      omega
end Go.Proofs.YtjajjblppogfoaaDoor
