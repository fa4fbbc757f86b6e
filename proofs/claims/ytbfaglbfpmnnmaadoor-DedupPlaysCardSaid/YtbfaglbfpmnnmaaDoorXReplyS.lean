import Derived.Test.YtbfaglbfpmnnmaaDoorXMap
namespace Go.X
set_option linter.unusedSimpArgs false
set_option linter.unusedVariables false
open Go Go.RowKit

/-! ## Errors, with no program in sight -/
inductive Er where
  | no (k : Int)
  | loss (a b c : Int)
  | flt (op : ByteArray) (at_ : Int) (e : Er)
def Er.kind : Er → Int
  | .no k => k
  | .loss _ _ _ => 6
  | .flt _ _ e => e.kind
def Er.where? : Er → Option (ByteArray × Int)
  | .flt op a e => match e.where? with
    | some x => some x
    | none => some (op, a)
  | _ => none

/-! ## Replies, with no program in sight -/
structure Rp where
  corr : Int
  err : Int
  base : Int
  next : Int
  names : List ByteArray
  batches : List (Int × ByteArray)
structure RawRp where
  corr : Int
  err : Int
  base : Int
  next : Int
  nv : Value
  bv : Value
def encR (x : RawRp) : List Value := [.int .i64 x.corr, .int .i64 x.err, .int .i64 x.base, .int .i64 x.next, x.nv, x.bv]
def vR (x : RawRp) : Value := .agg (encR x).toArray
def encT (p : Int × ByteArray) : List Value := [.int .i64 p.1, .string p.2]
theorem encT_len (p : Int × ByteArray) : (encT p).length = 2 := rfl
theorem encT_one (p : Int × ByteArray) : ∀ u ∈ encT p, u.oneCell' = true := by intro u hu; simp [encT] at hu; rcases hu with rfl | rfl <;> rfl
def vT (p : Int × ByteArray) : Value := .agg (encT p).toArray
structure IsRp (w : World) (x : RawRp) (r : Rp) : Prop where
  corr : x.corr = r.corr
  err : x.err = r.err
  base : x.base = r.base
  next : x.next = r.next
  names : SlT w encS x.nv r.names
  batches : SlT w encT x.bv r.batches
theorem IsRp.kept0 {w w' : World} {x : RawRp} {r : Rp} (h : IsRp w x r) (hk : Kept [] w w') : IsRp w' x r := ⟨h.corr, h.err, h.base, h.next, h.names.kept0 hk, h.batches.kept0 hk⟩
theorem SlT.one {α : Type} {w : World} {enc : α → List Value} {v : Value} {l : List α} (h : SlT w enc v l) : v.oneCell' = true := by
  obtain ⟨a, c, rfl, _⟩ := h; rfl
theorem IsRp.one {w : World} {x : RawRp} {r : Rp} (h : IsRp w x r) : ∀ u ∈ encR x, u.oneCell' = true := by
  intro u hu
  simp [encR] at hu
  rcases hu with rfl | rfl | rfl | rfl | rfl | rfl <;> first | rfl | exact h.names.one | exact h.batches.one
def mkS (l : List UInt8) : ByteArray := ⟨l.toArray⟩
def textT (p : Int × ByteArray) : ByteArray := mkS (lowB p.1 8) ++ p.2
def rpFields : List GFd := [⟨1, 4, 0, 4294967295, 0⟩, ⟨1, 1, 0, 255, 0⟩, ⟨1, 8, 0, 9223372036854775807, 0⟩, ⟨1, 8, 0, 9223372036854775807, 0⟩, ⟨3, 0, 0, 8, 24⟩, ⟨3, 0, 0, 4, 608⟩]
def Rp.vals (r : Rp) : List GVl := [⟨r.corr, strEmpty, []⟩, ⟨r.err, strEmpty, []⟩, ⟨r.base, strEmpty, []⟩, ⟨r.next, strEmpty, []⟩, ⟨0, strEmpty, r.names⟩, ⟨0, strEmpty, r.batches.map textT⟩]
def Rp.put (r : Rp) : Except (Int × Int) (List UInt8) := gramPut rpFields r.vals
def isOk {α β : Type} : Except α β → Bool
  | .ok _ => true
  | .error _ => false
def Rp.right (r : Rp) : Bool := isOk r.put && !r.batches.any fun p => decide (p.1 < 0)
def okOr {α : Type} : Except α (List UInt8) → List UInt8
  | .ok b => b
  | .error _ => []
def Rp.bytes (r : Rp) : List UInt8 := if r.right then okOr r.put else []
def batchT (s : ByteArray) : Int × ByteArray := (IntKind.i64.wrap (leNat ((bytesOf s).take 8)), s.extract 8 s.size)
def rpZero : Rp := ⟨0, 0, 0, 0, [], []⟩
def opG : ByteArray := ⟨#[103, 114, 97, 109, 46, 71, 101, 116]⟩
def opP : ByteArray := ⟨#[103, 114, 97, 109, 46, 80, 117, 116]⟩
def opRG : ByteArray := ⟨#[114, 101, 112, 108, 121, 46, 71, 101, 116]⟩
def rpGet (b : List UInt8) : Except Er Rp :=
  match gramGet rpFields b with
  | .error (i, k) => .error (.flt opRG 0 (.flt opG i (.no k)))
  | .ok vs => match vs with
    | [a, b, c, d, e, f] =>
      if f.l.any fun s => decide (s.size < 8) then .error (.flt opRG 0 (.no 2))
      else
        let r : Rp := ⟨a.n, b.n, c.n, d.n, e.l, f.l.map batchT⟩
        if r.right then .ok r else .error (.flt opRG 0 (.no 2))
    | _ => .error (.no 0)

theorem or_i64 {a x j : Nat} (ha : a < 2 ^ j) (hx : a + x * 2 ^ j < 18446744073709551616) :
    IntKind.i64.wrap ((BitVec.ofInt 64 (a : Int) ||| BitVec.ofInt 64 (IntKind.i64.wrap ((x * 2 ^ j : Nat) : Int))).toNat : Nat) = IntKind.i64.wrap ((a + x * 2 ^ j : Nat) : Int) := by
  have e : (BitVec.ofInt 64 (a : Int) ||| BitVec.ofInt 64 (IntKind.i64.wrap ((x * 2 ^ j : Nat) : Int))).toNat = a + x * 2 ^ j := by
    have hor := or_add (x := x) ha
    have hp : (2 : Nat) ^ j > 0 := Nat.pow_pos (by omega)
    generalize x * 2 ^ j = b at *
    have e1 : ((a : Int) % ((2 : Nat) ^ 64 : Nat)).toNat = a := by omega
    have e2 : (IntKind.i64.wrap ((b : Nat) : Int) % ((2 : Nat) ^ 64 : Nat)).toNat = b := by rw [IntKind.wrap_i64]; omega
    rw [← hor, BitVec.toNat_or, BitVec.toNat_ofInt, BitVec.toNat_ofInt, e1, e2]
  rw [e]
theorem xP_orI {P : Program} {T : TypeId} {K : Value → Prop} {a x j : Nat} (ha : a < 2 ^ j) (hx : a + x * 2 ^ j < 18446744073709551616) :
    xP P (sBin .or T (.int .i64 a) (.int .i64 (IntKind.i64.wrap ((x * 2 ^ j : Nat) : Int)))) K ↔ K (.int .i64 (IntKind.i64.wrap ((a + x * 2 ^ j : Nat) : Int))) :=
  xP_or.trans (Iff.of_eq (congrArg (fun z => K (.int .i64 z)) (or_i64 ha hx)))
theorem getRest_len {n : Nat} : ∀ {fs : List GFd} {r : List UInt8} {vs : List GVl}, getRest n fs r = .ok vs → vs.length = fs.length
  | [], r, vs, h => by
    unfold getRest at h
    split at h
    · cases h; rfl
    · cases h
  | f :: fs, r, vs, h => by
    unfold getRest at h
    cases hp : f.pVal r with
    | error e => rw [hp] at h; cases h
    | ok q =>
      obtain ⟨v, r'⟩ := q
      rw [hp] at h
      simp only at h
      cases hg : getRest n fs r' with
      | error e => rw [hg] at h; cases h
      | ok l =>
        rw [hg] at h
        simp only [Except.map] at h
        cases h
        simp [getRest_len hg]
theorem gramGet_ok {fs : List GFd} {b : List UInt8} {vs : List GVl} (h : gramGet fs b = .ok vs) : getRest b.length fs b = .ok vs ∧ ∀ f ∈ fs, f.right = true := by
  unfold gramGet at h
  split at h
  · cases h
  · rename_i hw
    refine ⟨h, fun f hm => ?_⟩
    cases hr : f.right with
    | true => rfl
    | false => exact absurd (List.findIdx_lt_length_of_exists ⟨f, hm, by simp [hr]⟩) hw
theorem gramGet_len {fs : List GFd} {b : List UInt8} {vs : List GVl} (h : gramGet fs b = .ok vs) : vs.length = fs.length := getRest_len (gramGet_ok h).1
theorem leNat1 (l : List UInt8) : leNat (l.take 1) ≤ 255 := by
  have h := leNat_lt (l.take 1)
  have : (l.take 1).length ≤ 1 := by rw [List.length_take]; omega
  have := Nat.lt_of_lt_of_le h (Nat.le_trans (Nat.pow_le_pow_right (by omega) this) (show 256 ^ 1 ≤ 256 by omega))
  omega
theorem pTexts_len {most : Int} : ∀ {k : Nat} {r r' : List UInt8} {l : List ByteArray}, pTexts most k r = .ok (l, r') → l.length = k
  | 0, _, _, _, h => by cases h; rfl
  | k + 1, r, r', l, h => by
    unfold pTexts at h
    split at h
    · cases h
    · split at h
      · cases h
      · rename_i h2
        cases h
        simp [pTexts_len h2]
theorem pVal_len {f : GFd} {r r' : List UInt8} {v : GVl} (h : f.pVal r = .ok (v, r')) : v.l.length ≤ 255 := by
  unfold GFd.pVal at h
  split at h
  · split at h
    · cases h
    · cases h; simp
  · split at h
    · split at h
      · cases h
      · cases h; simp
    · split at h
      · cases h
      · rename_i k r1 hk
        split at h
        · cases h
        · rename_i h2
          cases h
          rw [pTexts_len h2]
          unfold pNum at hk
          split at hk
          · cases hk
          · split at hk
            · cases hk
            · cases hk
              have := leNat1 r
              omega
theorem getRest_small {n : Nat} : ∀ {fs : List GFd} {r : List UInt8} {vs : List GVl}, getRest n fs r = .ok vs → ∀ v ∈ vs, v.l.length ≤ 255
  | [], r, vs, h => by
    unfold getRest at h
    split at h
    · cases h; simp
    · cases h
  | f :: fs, r, vs, h => by
    unfold getRest at h
    cases hp : f.pVal r with
    | error e => rw [hp] at h; cases h
    | ok q =>
      obtain ⟨v, r'⟩ := q
      rw [hp] at h
      simp only at h
      cases hg : getRest n fs r' with
      | error e => rw [hg] at h; cases h
      | ok l =>
        rw [hg] at h
        simp only [Except.map] at h
        cases h
        intro x hx
        rcases List.mem_cons.1 hx with rfl | hx
        · exact pVal_len hp
        · exact getRest_small hg x hx
theorem leNat_two (l : List UInt8) : leNat (l.take 2) < 65536 := by
  have h := leNat_lt (l.take 2)
  have : (l.take 2).length ≤ 2 := by rw [List.length_take]; omega
  exact Nat.lt_of_lt_of_le h (Nat.le_trans (Nat.pow_le_pow_right (by omega) this) (by omega))
theorem pText_sz {lo hi : Int} {r r' : List UInt8} {s : ByteArray} (h : pText lo hi r = .ok (s, r')) : s.size ≤ 65535 := by
  unfold pText at h
  split at h
  · cases h
  · rename_i n r1 hn
    split at h
    · cases h
    · cases h
      unfold pNum at hn
      split at hn
      · cases hn
      · split at hn
        · cases hn
        · cases hn
          have := leNat_two r
          show (List.toArray _).size ≤ _
          rw [List.size_toArray, List.length_take]
          omega
theorem pTexts_sz {most : Int} : ∀ {k : Nat} {r r' : List UInt8} {l : List ByteArray}, pTexts most k r = .ok (l, r') → ∀ s ∈ l, s.size ≤ 65535
  | 0, _, _, _, h => by cases h; simp
  | k + 1, r, r', l, h => by
    unfold pTexts at h
    split at h
    · cases h
    · rename_i s r1 hs
      split at h
      · cases h
      · rename_i h2
        cases h
        intro x hx
        rcases List.mem_cons.1 hx with rfl | hx
        · exact pText_sz hs
        · exact pTexts_sz h2 x hx
theorem pVal_sz {f : GFd} {r r' : List UInt8} {v : GVl} (h : f.pVal r = .ok (v, r')) : ∀ s ∈ v.l, s.size ≤ 65535 := by
  unfold GFd.pVal at h
  split at h
  · split at h
    · cases h
    · cases h; simp
  · split at h
    · split at h
      · cases h
      · cases h; simp
    · split at h
      · cases h
      · split at h
        · cases h
        · rename_i h2
          cases h
          exact pTexts_sz h2
theorem getRest_sz {n : Nat} : ∀ {fs : List GFd} {r : List UInt8} {vs : List GVl}, getRest n fs r = .ok vs → ∀ v ∈ vs, ∀ s ∈ v.l, s.size ≤ 65535
  | [], r, vs, h => by
    unfold getRest at h
    split at h
    · cases h; simp
    · cases h
  | f :: fs, r, vs, h => by
    unfold getRest at h
    cases hp : f.pVal r with
    | error e => rw [hp] at h; cases h
    | ok q =>
      obtain ⟨v, r'⟩ := q
      rw [hp] at h
      simp only at h
      cases hg : getRest n fs r' with
      | error e => rw [hg] at h; cases h
      | ok l =>
        rw [hg] at h
        simp only [Except.map] at h
        cases h
        intro x hx
        rcases List.mem_cons.1 hx with rfl | hx
        · exact pVal_sz hp
        · exact getRest_sz hg x hx
end Go.X
