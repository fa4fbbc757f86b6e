import Derived.Test.YtclojjiiiejfpaaDoorXReplyP
import Derived.Test.YtclojjiiiejfpaaDoorXGramC
import Derived.Test.YtclojjiiiejfpaaDoorXGramV
namespace Go.X
set_option linter.unusedSimpArgs false
set_option linter.unusedVariables false
open Go Go.RowKit

/-! ## Batches, with no program in sight -/
structure Bt where
  t : Int
  p : Int
  s : Int
  v : List ByteArray
  deriving DecidableEq
def encBt (b : Bt) (vv : Value) : List Value := [.int .i64 b.t, .int .i64 b.p, .int .i64 b.s, vv]
def vBt (b : Bt) (vv : Value) : Value := .agg (encBt b vv).toArray
theorem encBt_one {b : Bt} {vv : Value} (h : vv.oneCell' = true) : ∀ u ∈ encBt b vv, u.oneCell' = true := by
  intro u hu
  simp [encBt] at hu
  rcases hu with rfl | rfl | rfl | rfl <;> first | rfl | exact h
def btFields : List GFd := [⟨1, 8, 0, 1125899906842624, 0⟩, ⟨1, 4, 0, 1048576, 0⟩, ⟨1, 8, 0, 1099511627776, 0⟩, ⟨3, 0, 1, 8, 60⟩]
def Bt.vals (b : Bt) : List GVl := [⟨b.t, strEmpty, []⟩, ⟨b.p, strEmpty, []⟩, ⟨b.s, strEmpty, []⟩, ⟨0, strEmpty, b.v⟩]
def Bt.fit (b : Bt) : Bool := decide ((0 ≤ b.t ∧ b.t ≤ 1125899906842624) ∧ (0 ≤ b.p ∧ b.p ≤ 1048576) ∧ (0 ≤ b.s ∧ b.s ≤ 1099511627776) ∧ (1 ≤ b.v.length ∧ b.v.length ≤ 8 ∧ ∀ x ∈ b.v, x.size ≤ 60))
theorem Bt.fit_iff {b : Bt} : b.fit = true ↔ ((0 ≤ b.t ∧ b.t ≤ 1125899906842624) ∧ (0 ≤ b.p ∧ b.p ≤ 1048576) ∧ (0 ≤ b.s ∧ b.s ≤ 1099511627776) ∧ (1 ≤ b.v.length ∧ b.v.length ≤ 8 ∧ ∀ x ∈ b.v, x.size ≤ 60)) := decide_eq_true_iff
def Bt.right (b : Bt) : Bool := b.fit && (decide (0 < b.p) || decide (b.s = 0))
def btB (b : Bt) : List UInt8 := lowB b.t 8 ++ (lowB b.p 4 ++ (lowB b.s 8 ++ ((lowB b.v.length 1 ++ b.v.flatMap textB) ++ [])))
def Bt.bytes (b : Bt) : List UInt8 := if b.right then btB b else []
def opBG : ByteArray := ⟨#[98, 97, 116, 99, 104, 46, 71, 101, 116]⟩
def btGet (l : List UInt8) : Except Er Bt :=
  match gramGet btFields l with
  | .error (i, k) => .error (.flt opBG 0 (.flt opG i (.no k)))
  | .ok vs => match vs with
    | [a, b, c, d] => if (⟨a.n, b.n, c.n, d.l⟩ : Bt).right then .ok ⟨a.n, b.n, c.n, d.l⟩ else .error (.flt opBG 0 (.no 2))
    | _ => .error (.no 0)
theorem btFields_right : btFields.findIdx (fun f => !f.right) = 4 := by decide +kernel
theorem btSmall : ∀ f ∈ btFields, f.hi ≤ 9223372036854775807 := by
  intro f hf
  simp [btFields] at hf
  rcases hf with rfl | rfl | rfl | rfl <;> simp
theorem fit_fits {b : Bt} : b.fit = true ↔ (GFd.fits ⟨1, 8, 0, 1125899906842624, 0⟩ ⟨b.t, strEmpty, []⟩ = true ∧ GFd.fits ⟨1, 4, 0, 1048576, 0⟩ ⟨b.p, strEmpty, []⟩ = true ∧ GFd.fits ⟨1, 8, 0, 1099511627776, 0⟩ ⟨b.s, strEmpty, []⟩ = true ∧ GFd.fits ⟨3, 0, 1, 8, 60⟩ ⟨0, strEmpty, b.v⟩ = true) := by
  rw [Bt.fit_iff, GFd.fits_num rfl, GFd.fits_num rfl, GFd.fits_num rfl, GFd.fits_texts rfl]
  constructor
  · rintro ⟨h1, h2, h3, h4, h5, h6⟩
    exact ⟨⟨h1.1, h1.2, rfl, rfl⟩, ⟨h2.1, h2.2, rfl, rfl⟩, ⟨h3.1, h3.2, rfl, rfl⟩, ⟨by simp; omega, by simp; omega, fun s hs => by have := h6 s hs; simp; omega, rfl, rfl⟩⟩
  · rintro ⟨⟨a1, a2, -, -⟩, ⟨b1, b2, -, -⟩, ⟨c1, c2, -, -⟩, ⟨e0, e1, e2, -, -⟩⟩
    exact ⟨⟨a1, a2⟩, ⟨b1, b2⟩, ⟨c1, c2⟩, ⟨by simp at e0; omega, by simp at e1; omega, fun s hs => by have := e2 s hs; simp at this; omega⟩⟩
theorem written_l1 (lo hi most : Int) (l : List ByteArray) : GFd.written ⟨3, 0, lo, hi, most⟩ ⟨0, strEmpty, l⟩ = lowB l.length 1 ++ l.flatMap textB := by
  unfold GFd.written
  rw [if_neg (show ¬ (3 : Int) = 1 by decide), if_neg (show ¬ (3 : Int) = 2 by decide)]
theorem bt_put {b : Bt} (h : b.fit = true) : gramPut btFields b.vals = .ok (btB b) := by
  obtain ⟨h1, h2, h3, h4⟩ := fit_fits.1 h
  unfold gramPut
  rw [btFields_right, if_neg (by simp [btFields]), if_pos (by simp [Bt.vals, btFields])]
  unfold btFields Bt.vals
  simp only [putRest, h1, h2, h3, h4, if_true, Except.map, written_n, written_l1, Int.reduceToNat]
  rfl
theorem bt_put_fit {b : Bt} {l : List UInt8} (h : gramPut btFields b.vals = .ok l) : b.fit = true ∧ l = btB b := by
  obtain ⟨_, hl, hp⟩ := gramPut_ok h
  have := putRest_len hl hp
  have hf : b.fit = true := fit_fits.2 ⟨this 0 _ _ rfl rfl, this 1 _ _ rfl rfl, this 2 _ _ rfl rfl, this 3 _ _ rfl rfl⟩
  rw [bt_put hf] at h
  cases h
  exact ⟨hf, rfl⟩
theorem Bt.right_fit {b : Bt} (h : b.right = true) : b.fit = true := by unfold Bt.right at h; rw [Bool.and_eq_true] at h; exact h.1
theorem Bt.bytes_right {b : Bt} (h : b.right = true) : b.bytes = btB b := if_pos h
theorem Bt.bytes_not {b : Bt} (h : b.right = false) : b.bytes = [] := by unfold Bt.bytes; rw [h]; rfl
theorem right_put4 {b : Bt} (h : b.right = true) : gramPut btFields b.vals = .ok b.bytes := by rw [Bt.bytes_right h]; exact bt_put (Bt.right_fit h)
theorem btB_len (b : Bt) : (btB b).length = 21 + (b.v.flatMap textB).length := by
  unfold btB
  simp only [List.length_append, lowB_len, List.length_nil]
  omega
theorem texts_bound {m : Nat} : ∀ {l : List ByteArray}, (∀ s ∈ l, s.size ≤ m) → (l.flatMap textB).length ≤ l.length * (2 + m)
  | [], _ => by simp
  | s :: l, h => by
    rw [List.flatMap_cons, List.length_append, List.length_cons, Nat.succ_mul]
    have h1 := texts_bound (fun x hx => h x (List.mem_cons_of_mem _ hx))
    have h2 := h s List.mem_cons_self
    have : (textB s).length = 2 + s.size := by unfold textB; rw [List.length_append, lowB_len, bytesOf_len]
    omega
theorem Bt.bytes_le (b : Bt) : b.bytes.length ≤ 1000 := by
  cases h : b.right with
  | false => rw [Bt.bytes_not h]; simp
  | true =>
    rw [Bt.bytes_right h, btB_len]
    obtain ⟨_, _, _, _, h5, h6⟩ := Bt.fit_iff.1 (Bt.right_fit h)
    have := texts_bound h6
    have : b.v.length * (2 + 60) ≤ 8 * 62 := Nat.mul_le_mul_right _ h5
    omega
theorem Bt.bytes_pos (b : Bt) : decide ((0 : Int) < b.bytes.length) = b.right := by
  cases h : b.right with
  | false => rw [Bt.bytes_not h]; rfl
  | true => rw [Bt.bytes_right h, btB_len]; exact decide_eq_true (by omega)
theorem btGet_bytes {b : Bt} (h : b.right = true) : btGet b.bytes = .ok b := by
  have := gramGet_put btSmall (right_put4 h)
  unfold btGet
  rw [this]
  simp only [Bt.vals]
  exact if_pos h
theorem btGet_cut {b : Bt} (h : b.right = true) {k : Nat} (hk : k < b.bytes.length) : ∃ j, btGet (b.bytes.take k) = .error (.flt opBG 0 (.flt opG j (.no 3))) := by
  obtain ⟨j, hj⟩ := gramGet_cut btSmall (right_put4 h) hk
  exact ⟨j, by unfold btGet; rw [hj]⟩
theorem btGet_tail {b : Bt} (h : b.right = true) {x : UInt8} : ∃ j, btGet (b.bytes ++ [x]) = .error (.flt opBG 0 (.flt opG j (.no 4))) := by
  have hj := gramGet_tail btSmall (right_put4 h) (r := [x]) (by simp)
  exact ⟨b.bytes.length, by unfold btGet; rw [hj]⟩
theorem bt_same {b c : Bt} (hb : b.right = true) (hc : c.right = true) : decide (b.bytes = c.bytes) = decide (b = c) := by
  have h1 := btGet_bytes hb
  have h2 := btGet_bytes hc
  rw [Bool.eq_iff_iff, decide_eq_true_iff, decide_eq_true_iff]
  constructor
  · intro h; rw [h, h2] at h1; cases h1; rfl
  · intro h; rw [h]
theorem row4 {l : List UInt8} {vs : List GVl} (h : gramGet btFields l = .ok vs) : ∃ a b c d, vs = [a, b, c, d] := by
  have hl := gramGet_len h
  rcases vs with _ | ⟨a, _ | ⟨b, _ | ⟨c, _ | ⟨d, _ | ⟨e, vs⟩⟩⟩⟩⟩ <;> simp [btFields] at hl
  exact ⟨a, b, c, d, rfl⟩
theorem btGet_ok {l : List UInt8} {b : Bt} (h : btGet l = .ok b) : b.right = true ∧ b.bytes = l := by
  unfold btGet at h
  cases hg : gramGet btFields l with
  | error e => rw [hg] at h; cases h
  | ok vs =>
    obtain ⟨x, y, z, u, rfl⟩ := row4 hg
    rw [hg] at h
    simp only at h
    split at h
    · rename_i hr
      cases h
      have hp := gramPut_get hg
      obtain ⟨_, hl, hq⟩ := gramPut_ok hp
      have hf := putRest_len hl hq
      have f0 := (GFd.fits_num rfl).1 (hf 0 _ _ rfl rfl)
      have f1 := (GFd.fits_num rfl).1 (hf 1 _ _ rfl rfl)
      have f2 := (GFd.fits_num rfl).1 (hf 2 _ _ rfl rfl)
      have f3 := (GFd.fits_texts rfl).1 (hf 3 _ _ rfl rfl)
      have e : (⟨x.n, y.n, z.n, u.l⟩ : Bt).vals = [x, y, z, u] := by
        obtain ⟨xn, xs, xl⟩ := x; obtain ⟨yn, ys, yl⟩ := y; obtain ⟨zn, zs, zl⟩ := z; obtain ⟨un, us, ul⟩ := u
        simp only at f0 f1 f2 f3
        obtain ⟨_, _, rfl, rfl⟩ := f0
        obtain ⟨_, _, rfl, rfl⟩ := f1
        obtain ⟨_, _, rfl, rfl⟩ := f2
        obtain ⟨_, _, _, rfl, rfl⟩ := f3
        rfl
      have h2 := right_put4 hr
      rw [e, hp] at h2
      cases h2
      exact ⟨hr, rfl⟩
    · cases h
-- kinds
def Er.plain4 : Er → Bool
  | .no _ => true
  | .loss _ _ _ => false
  | .flt _ _ e => e.plain4
theorem btGet_err {l : List UInt8} {e : Er} (h : btGet l = .error e) : Er.plain4 e = true ∧ e.kind ≠ 0 := by
  unfold btGet at h
  cases hg : gramGet btFields l with
  | error q => obtain ⟨i, k⟩ := q; rw [hg] at h; cases h; exact ⟨rfl, gramGet_err hg⟩
  | ok vs =>
    obtain ⟨x, y, z, u, rfl⟩ := row4 hg
    rw [hg] at h
    simp only at h
    split at h
    · cases h
    · cases h; exact ⟨rfl, by decide⟩
end Go.X
