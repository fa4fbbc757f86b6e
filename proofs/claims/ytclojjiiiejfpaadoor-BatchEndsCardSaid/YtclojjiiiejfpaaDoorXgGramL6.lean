import Derived.Test.YtclojjiiiejfpaaDoorXgGramL5
namespace Go.Proofs.YtclojjiiiejfpaaDoor
set_option linter.unusedSimpArgs false
set_option linter.unusedVariables false
set_option maxRecDepth 100000
attribute [local irreducible] Go.X.xE
open Go Go.X Go.RowKit

/-! ## Texts of zeros -/
def zs (n : Nat) : ByteArray := ⟨(List.replicate n (0 : UInt8)).toArray⟩
theorem zs_size (n : Nat) : (zs n).size = n := by unfold zs; rw [size_mk, List.length_replicate]
theorem zs_empty (n : Nat) : zs n = strEmpty ↔ n = 0 := by
  constructor
  · intro h; have := congrArg ByteArray.size h; rw [zs_size] at this; exact this
  · rintro rfl; rfl
theorem fits_f {a b : Int} {k : Nat} : (⟨2, 0, a, b, 0⟩ : GFd).fits ⟨0, zs k, []⟩ = decide (a ≤ k ∧ (k : Int) ≤ b) := by
  rw [Bool.eq_iff_iff, GFd.fits_text rfl, decide_eq_true_iff, zs_size]
  exact ⟨fun ⟨h1, h2, _⟩ => ⟨h1, h2⟩, fun ⟨h1, h2⟩ => ⟨h1, h2, rfl, rfl⟩⟩
theorem fits_h {a b : Int} {m k : Nat} : (⟨3, 0, a, b, m⟩ : GFd).fits ⟨0, strEmpty, List.replicate k (zs m)⟩ = decide (a ≤ k ∧ (k : Int) ≤ b) := by
  rw [Bool.eq_iff_iff, GFd.fits_texts rfl, decide_eq_true_iff, List.length_replicate]
  exact ⟨fun ⟨h1, h2, _⟩ => ⟨h1, h2⟩, fun ⟨h1, h2⟩ => ⟨h1, h2, fun s hs => by rw [(List.mem_replicate.1 hs).2, zs_size]; exact Int.le_refl _, rfl, rfl⟩⟩
theorem fits_h1 {a b : Int} {m k : Nat} : (⟨3, 0, a, b, m⟩ : GFd).fits ⟨0, strEmpty, List.replicate k (zs m) ++ [zs (m + 1)]⟩ = false := by
  cases h : (⟨3, 0, a, b, m⟩ : GFd).fits ⟨0, strEmpty, List.replicate k (zs m) ++ [zs (m + 1)]⟩ with
  | false => rfl
  | true =>
    have := ((GFd.fits_texts rfl).1 h).2.2.1 (zs (m + 1)) (by simp)
    rw [zs_size] at this
    exfalso
    have : ((m + 1 : Nat) : Int) ≤ (m : Nat) := this
    omega
theorem right_f {a b : Int} (h0 : 0 ≤ a) (hab : a ≤ b) (hb : b ≤ 10) : (⟨2, 0, a, b, 0⟩ : GFd).right = true := by
  simp [GFd.right]; omega
theorem right_h {a b : Int} {m : Nat} (h0 : 0 ≤ a) (hab : a ≤ b) (hb : b ≤ 10) (hm : m ≤ 6) : (⟨3, 0, a, b, m⟩ : GFd).right = true := by
  simp [GFd.right]; omega
theorem text_len (s : ByteArray) : (textB s).length = 2 + s.size := by unfold textB; rw [List.length_append, lowB_len, bytesOf_len]
theorem len_f {a b : Int} {k : Nat} : ((⟨2, 0, a, b, 0⟩ : GFd).written ⟨0, zs k, []⟩).length = 2 + k := by
  simp [GFd.written, text_len, zs_size]
theorem len_h {a b : Int} {m k : Nat} : ((⟨3, 0, a, b, m⟩ : GFd).written ⟨0, strEmpty, List.replicate k (zs m)⟩).length = 1 + k * (2 + m) := by
  have : ∀ k : Nat, ((List.replicate k (zs m)).flatMap textB).length = k * (2 + m) := by
    intro k
    induction k with
    | zero => simp
    | succ k ih => rw [List.replicate_succ, List.flatMap_cons, List.length_append, ih, text_len, zs_size, Nat.succ_mul]; omega
  simp [GFd.written, lowB_len, this]
theorem get_f {a b : Int} {c : UInt8} (h0 : 0 ≤ a) (hab : a ≤ b) (hb : b ≤ 10) (hc : (c.toNat : Int) = b + 1) : gramGet [⟨2, 0, a, b, 0⟩] [c, 0] = .error (0, 2) := by
  unfold gramGet
  rw [if_neg (by simp [List.findIdx_cons, right_f h0 hab hb])]
  unfold getRest
  have : (⟨2, 0, a, b, 0⟩ : GFd).pVal [c, 0] = .error 2 := by
    simp [GFd.pVal, pText, pNum, leNat]
    rw [if_pos (by omega)]
  rw [this]
  rfl
theorem get_h {a b : Int} {m : Nat} {c : UInt8} (h0 : 0 ≤ a) (hab : a ≤ b) (hb : b ≤ 10) (hm : m ≤ 6) (hc : (c.toNat : Int) = b + 1) : gramGet [⟨3, 0, a, b, m⟩] [c] = .error (0, 2) := by
  unfold gramGet
  rw [if_neg (by simp [List.findIdx_cons, right_h h0 hab hb hm])]
  unfold getRest
  have : (⟨3, 0, a, b, m⟩ : GFd).pVal [c] = .error 2 := by
    simp [GFd.pVal, pNum, leNat]
    rw [if_pos (by omega)]
  rw [this]
  rfl
/-! ## Steps -/
theorem mk0 {n : Nat} {w : World} {K : Value → World → Prop} (hn : n ≤ 1000) (k : ∀ v w', SlT w' encB v (List.replicate n 0) → Kept [] w w' → K v w') : xE Tryd.prog (sMakeSlice 25 (.int .i64 n) (.int .i64 n)) w K := by
  refine xE_make EL_25 (by omega) (by unfold maxLen; omega) fun w' hb hk _ => k _ _ ?_ hk
  have := slT_blk (l := List.replicate n (0 : UInt8)) (enc := encB) (w := w') (b := w.heap.size) (E := 5) (by rw [flat_B, List.map_replicate]; exact hb)
  rwa [List.length_replicate] at this
theorem cv0 {n : Nat} {v : Value} {w : World} {K : Value → World → Prop} (h : SlT w encB v (List.replicate n 0)) (k : K (.string (zs n)) w) : xE Tryd.prog (sConv 25 9 v) w K :=
  (xE_toStr ⟨_, UB, by kernel_rfl⟩ STR h).2 k
theorem oneS {s : ByteArray} {w : World} {K : Value → World → Prop} (k : ∀ u w', SlT w' encS u [s] → Kept [] w w' → K u w') : xE Tryd.prog (sBuildSlice 30 1 #[(0, .string s)]) w K :=
  xE_buildSlice EL_30 [.string s] rfl rfl (by simp [Value.cells]) (by omega) (by omega) fun w' hb hk _ => k _ _ (slT_blk (l := [s]) hb) hk
theorem oneFe {f : GFd} {w : World} {K : Value → World → Prop} (k : ∀ w', SlT w' encF (.slice (some ⟨w.heap.size, 0, none⟩) 1 1) [f] → Kept [] w w' → K (.slice (some ⟨w.heap.size, 0, none⟩) 1 1) w') : xE Tryd.prog (sBuildSlice 24 1 #[(0, vF f)]) w K := by
  refine xE_buildSlice EL_24 [vF f] rfl rfl (by intro v hv; simp at hv; subst hv; rfl) (by omega) (by omega) fun w' hb hk hz => ?_
  exact k w' (slT_blk (l := [f]) (by simpa [vF, Value.cells] using hb)) hk
theorem appS {l : List ByteArray} {s : ByteArray} {u v : Value} {F : List Nat} {w : World} {K : Value → World → Prop} (ho : Own w 9 1 u l.length (l.flatMap encS) F) (hv : SlT w encS v [s]) (hl : l.length ≤ 1000)
    (k : ∀ u' w' F', Own w' 9 1 u' (l ++ [s]).length ((l ++ [s]).flatMap encS) F' → (∀ g ∈ F', g ∈ F ∨ w.heap.size ≤ g) → Kept F w w' → K u' w') : xE Tryd.prog (sB .append #[30, 30] #[u, v]) w K := by
  refine xE_appendSrc EL_30 ho (Src.ofSlT (l := [s]) (e' := 9) (by kernel_rfl) hv encS_len encS_one) (by simp; omega) (by unfold maxLen; simp; omega) fun u2 w2 F2 ho2 hk2 hF2 _ => ?_
  refine k u2 w2 F2 ?_ hF2 hk2
  rw [List.flatMap_append, List.length_append]
  exact ho2
end Go.Proofs.YtclojjiiiejfpaaDoor
