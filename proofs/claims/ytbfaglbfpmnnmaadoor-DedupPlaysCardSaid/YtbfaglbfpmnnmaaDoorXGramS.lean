import Derived.Test.YtbfaglbfpmnnmaaDoorXLib
namespace Go.X
set_option linter.unusedSimpArgs false
set_option linter.unusedVariables false
open Go

/-! ## What a grammar's row is, with no program in sight -/
structure GFd where
  kind : Int
  size : Int
  lo : Int
  hi : Int
  most : Int
structure GVl where
  n : Int
  s : ByteArray
  l : List ByteArray
def encF (f : GFd) : List Value := [.int .i64 f.kind, .int .i64 f.size, .int .i64 f.lo, .int .i64 f.hi, .int .i64 f.most]
theorem encF_len (f : GFd) : (encF f).length = 5 := rfl
def vF (f : GFd) : Value := .agg (encF f).toArray
theorem encF_cells (f : GFd) : ∀ u ∈ encF f, u.oneCell' = true := by
  intro u hu
  simp [encF] at hu
  rcases hu with rfl | rfl | rfl | rfl | rfl <;> rfl

def GFd.right (f : GFd) : Bool :=
  !(decide (f.lo < 0) || decide (f.hi < f.lo)) &&
  if f.kind = 1 then decide (f.most = 0) && ((decide (f.size = 1 ∨ f.size = 2 ∨ f.size = 4) && decide (f.hi / 2 ^ (8 * f.size).toNat = 0)) || decide (f.size = 8))
  else if f.kind = 3 then !(decide (255 < f.hi) || decide (f.most < 0) || decide (65535 < f.most)) && decide (f.size = 0 ∧ f.hi ≤ 65535)
  else if f.kind = 2 then decide (f.size = 0 ∧ f.most = 0 ∧ f.hi ≤ 65535)
  else false
def GFd.isIn (f : GFd) (n : Int) : Bool := decide (f.lo ≤ n) && decide (n ≤ f.hi)
def strEmpty : ByteArray := ⟨#[]⟩
def GFd.fits (f : GFd) (v : GVl) : Bool :=
  let num := !decide (v.n = 0); let text := !decide (v.s = strEmpty); let texts := !v.l.isEmpty
  if f.kind = 1 then f.isIn v.n && !text && !texts
  else if f.kind = 2 then f.isIn v.s.size && !num && !texts
  else f.isIn v.l.length && !(v.l.any fun s => decide (f.most < s.size)) && !num && !text
/-- The low bytes of a number. -/
def lowB (n : Int) (k : Nat) : List UInt8 := (List.range k).map fun i => UInt8.ofNat (n / 2 ^ (8 * i) % 256).toNat
theorem lowB_len (n : Int) (k : Nat) : (lowB n k).length = k := by simp [lowB]
def bytesOf (s : ByteArray) : List UInt8 := s.data.toList
theorem bytesOf_len (s : ByteArray) : (bytesOf s).length = s.size := by unfold bytesOf; rw [Array.length_toList]; rfl
def textB (s : ByteArray) : List UInt8 := lowB s.size 2 ++ bytesOf s
def GFd.written (f : GFd) (v : GVl) : List UInt8 :=
  if f.kind = 1 then lowB v.n f.size.toNat
  else if f.kind = 2 then textB v.s
  else lowB v.l.length 1 ++ v.l.flatMap textB

/-- Put: an error (its place, its number), or the bytes. -/
def putRest : Nat → List GFd → List GVl → Except (Int × Int) (List UInt8)
  | _, [], _ => .ok []
  | i, f :: fs, v :: vs => if f.fits v then (putRest (i + 1) fs vs).map (f.written v ++ ·) else .error (i, 2)
  | i, _ :: _, [] => .error (i, 2)
def gramPut (fs : List GFd) (vs : List GVl) : Except (Int × Int) (List UInt8) :=
  if fs.findIdx (fun f => !f.right) < fs.length then .error (fs.findIdx (fun f => !f.right), 1)
  else if vs.length = fs.length then putRest 0 fs vs else .error (vs.length, 1)

/-! ### Reading -/
def leNat : List UInt8 → Nat
  | [] => 0
  | b :: l => b.toNat + 256 * leNat l
theorem leNat_lt (l : List UInt8) : leNat l < 256 ^ l.length := by
  induction l with
  | nil => simp [leNat]
  | cons b l ih =>
    have := b.toNat_lt
    simp only [leNat, List.length_cons, Nat.pow_succ]
    omega
def pNum (size : Nat) (lo hi : Int) (r : List UInt8) : Except Int (Int × List UInt8) :=
  if r.length < size then .error 3
  else if (leNat (r.take size) : Int) < lo ∨ hi < leNat (r.take size) then .error 2
  else .ok (leNat (r.take size), r.drop size)
def pText (lo hi : Int) (r : List UInt8) : Except Int (ByteArray × List UInt8) :=
  match pNum 2 lo hi r with
  | .error e => .error e
  | .ok (n, r') => if (r'.length : Int) < n then .error 3 else .ok (⟨(r'.take n.toNat).toArray⟩, r'.drop n.toNat)
def pTexts (most : Int) : Nat → List UInt8 → Except Int (List ByteArray × List UInt8)
  | 0, r => .ok ([], r)
  | k + 1, r => match pText 0 most r with
    | .error e => .error e
    | .ok (s, r') => match pTexts most k r' with
      | .error e => .error e
      | .ok (l, r'') => .ok (s :: l, r'')
def GFd.pVal (f : GFd) (r : List UInt8) : Except Int (GVl × List UInt8) :=
  if f.kind = 1 then match pNum f.size.toNat f.lo f.hi r with
    | .error e => .error e
    | .ok (n, r') => .ok (⟨n, strEmpty, []⟩, r')
  else if f.kind = 2 then match pText f.lo f.hi r with
    | .error e => .error e
    | .ok (s, r') => .ok (⟨0, s, []⟩, r')
  else match pNum 1 f.lo f.hi r with
    | .error e => .error e
    | .ok (k, r') => match pTexts f.most k.toNat r' with
      | .error e => .error e
      | .ok (l, r'') => .ok (⟨0, strEmpty, l⟩, r'')
/-- The rows that are left, of the bytes that are left; n: how many bytes there were. -/
def getRest (n : Nat) : List GFd → List UInt8 → Except (Int × Int) (List GVl)
  | [], r => if r.isEmpty then .ok [] else .error (n - r.length, 4)
  | f :: fs, r => match f.pVal r with
    | .error e => .error (n - r.length, e)
    | .ok (v, r') => (getRest n fs r').map (v :: ·)
def gramGet (fs : List GFd) (b : List UInt8) : Except (Int × Int) (List GVl) :=
  if fs.findIdx (fun f => !f.right) < fs.length then .error (fs.findIdx (fun f => !f.right), 1)
  else getRest b.length fs b

/-! ### In memory -/
/-- A value's cells, its texts behind 'lv'. -/
structure RawV where
  n : Int
  s : ByteArray
  lv : Value
def encV (x : RawV) : List Value := [.int .i64 x.n, .string x.s, x.lv]
theorem encV_len (x : RawV) : (encV x).length = 3 := rfl
def vV (x : RawV) : Value := .agg (encV x).toArray
/-- The raw value reads as the value. -/
def IsV (w : World) (x : RawV) (v : GVl) : Prop := x.n = v.n ∧ x.s = v.s ∧ SlT w encS x.lv v.l
theorem IsV.kept0 {w w' : World} {x : RawV} {v : GVl} (h : IsV w x v) (hk : Kept [] w w') : IsV w' x v := ⟨h.1, h.2.1, h.2.2.kept0 hk⟩
end Go.X
