import Derived.Test.YtclojjiiiejfpaaDoorXGramC
import Derived.Test.YtclojjiiiejfpaaDoorXB
namespace Go.X
set_option linter.unusedSimpArgs false
set_option linter.unusedVariables false
open Go Go.RowKit

/-! ## Values: held against each other; cut -/
instance : DecidableEq GVl := fun a b =>
  if h1 : a.n = b.n then
    if h2 : a.s = b.s then
      if h3 : a.l = b.l then .isTrue (by cases a; cases b; simp_all)
      else .isFalse (fun h => h3 (by rw [h]))
    else .isFalse (fun h => h2 (by rw [h]))
  else .isFalse (fun h => h1 (by rw [h]))
def gcut (k : Nat) (s : ByteArray) : ByteArray := s.extract 0 k
theorem gcut_size (k : Nat) (s : ByteArray) : (gcut k s).size ≤ k := by unfold gcut; rw [ByteArray.size_extract]; omega
def cutV (v : GVl) : GVl := ⟨v.n, gcut 40 v.s, (v.l.take 4).map (gcut 20)⟩
def fewV (vs : List GVl) : List GVl := (vs.take 6).map cutV
theorem fewV_len (vs : List GVl) : (fewV vs).length ≤ 6 := by simp [fewV]; omega
theorem fewV_small (vs : List GVl) : ∀ y ∈ fewV vs, y.l.length ≤ 9223372036854775806 := by
  intro y hy
  obtain ⟨v, _, rfl⟩ := List.mem_map.1 hy
  simp [cutV]
  omega
theorem lowB_nat (n : Nat) : ∀ i, UInt8.ofNat ((n : Int) / 2 ^ (8 * i) % 256).toNat = UInt8.ofNat (n / 2 ^ (8 * i) % 256) := by
  intro i
  congr 1
theorem leastRight {f : GFd} (h : f.right = true) (h63 : f.hi ≤ 9223372036854775807) : 0 ≤ f.least ∧ f.least ≤ 131072 := by
  unfold GFd.least
  rcases GFd.right_kinds h with hk1 | hk2 | hk3
  · obtain ⟨hs, _⟩ := GFd.right_num h hk1
    rw [if_pos hk1]; omega
  · obtain ⟨h5, h6, h7⟩ := GFd.right_text h hk2
    rw [if_neg (by omega), if_pos hk2]; omega
  · obtain ⟨h5, h6, h7, h8, h9⟩ := GFd.right_texts h hk3
    rw [if_neg (by omega), if_neg (by omega), if_pos hk3]; omega
theorem leastSum_le : ∀ {fs : List GFd}, (∀ f ∈ fs, 0 ≤ f.least ∧ f.least ≤ 131072) → 0 ≤ leastSum fs ∧ leastSum fs ≤ fs.length * 131072
  | [], _ => by simp [leastSum]
  | f :: fs, h => by
    have h1 := h f List.mem_cons_self
    have h2 := leastSum_le (fun x hx => h x (List.mem_cons_of_mem _ hx))
    unfold leastSum at *
    rw [List.map_cons, List.sum_cons, List.length_cons]
    omega
theorem pNum_err {size : Nat} {lo hi e : Int} {r : List UInt8} (h : pNum size lo hi r = .error e) : e ≠ 0 := by
  unfold pNum at h
  split at h
  · cases h; omega
  · split at h
    · cases h; omega
    · cases h
theorem pText_err {lo hi e : Int} {r : List UInt8} (h : pText lo hi r = .error e) : e ≠ 0 := by
  unfold pText at h
  split at h
  · rename_i hn; cases h; exact pNum_err hn
  · split at h
    · cases h; omega
    · cases h
theorem pTexts_err {most e : Int} : ∀ {k : Nat} {r : List UInt8}, pTexts most k r = .error e → e ≠ 0
  | 0, r, h => by cases h
  | k + 1, r, h => by
    unfold pTexts at h
    split at h
    · rename_i hn; cases h; exact pText_err hn
    · split at h
      · rename_i hn; cases h; exact pTexts_err hn
      · cases h
theorem pVal_err {f : GFd} {e : Int} {r : List UInt8} (h : f.pVal r = .error e) : e ≠ 0 := by
  unfold GFd.pVal at h
  split at h
  · split at h
    · rename_i hn; cases h; exact pNum_err hn
    · cases h
  · split at h
    · split at h
      · rename_i hn; cases h; exact pText_err hn
      · cases h
    · split at h
      · rename_i hn; cases h; exact pNum_err hn
      · split at h
        · rename_i hn; cases h; exact pTexts_err hn
        · cases h
theorem getRest_err {n : Nat} : ∀ {fs : List GFd} {r : List UInt8} {i k : Int}, getRest n fs r = .error (i, k) → k ≠ 0
  | [], r, i, k, h => by
    unfold getRest at h
    split at h
    · cases h
    · cases h; omega
  | f :: fs, r, i, k, h => by
    unfold getRest at h
    split at h
    · rename_i hn; cases h; exact pVal_err hn
    · rename_i v r' _
      cases hg : getRest n fs r' with
      | ok vs => rw [hg] at h; simp [Except.map] at h
      | error e => rw [hg] at h; simp [Except.map] at h; subst h; exact getRest_err hg
theorem gramGet_err {fs : List GFd} {b : List UInt8} {i k : Int} (h : gramGet fs b = .error (i, k)) : k ≠ 0 := by
  unfold gramGet at h
  split at h
  · cases h; omega
  · exact getRest_err h
end Go.X
