import Derived.Test.YtclojjiiiejfpaaDoorXgSame1
namespace Go.Proofs.YtclojjiiiejfpaaDoor
set_option linter.unusedSimpArgs false
set_option linter.unusedVariables false
set_option maxRecDepth 100000
attribute [local irreducible] Go.X.xE
open Go Go.X Go.RowKit

theorem flip_set2 {p : List UInt8} {i : Nat} {v : UInt8} : (p.flatMap encB).set i (.int .u8 v.toNat) = (p.set i v).flatMap encB := by
  rw [flat_B, flat_B, List.map_set]
/-- own[within(n, 0, len(own) - 1)] ^= c -/
theorem flipS {p : List UInt8} {v : Value} {F : List Nat} {n : Int} {c : UInt8} {w : World} {K : World → Prop} (ho : Own w 5 1 v p.length (p.flatMap encB) F) (hp : 0 < p.length) (hp2 : p.length ≤ 1000000000)
    (k : ∀ (i : Nat) (hi : i < p.length) w', Own w' 5 1 v p.length ((p.set i (p[i] ^^^ c)).flatMap encB) F → Kept F w w' → K w') :
    xP Tryd.prog (sB .len #[25] #[v]) fun v49 => xP Tryd.prog (sBin .sub 3 v49 (.int .i64 1)) fun v50 => xE Tryd.prog (sCall 26 #[.int .i64 n, .int .i64 0, v50]) w fun v51 w46 =>
      xP Tryd.prog (sIA 25 v v51) fun v52 => xR Tryd.prog (sLoad 5 v52) w46 fun v53 => xP Tryd.prog (sBin .xor 5 v53 (.int .u8 c.toNat)) fun v55 =>
      xP Tryd.prog (sIA 25 v v51) fun v56 => xE Tryd.prog (sStore 5 v56 v55) w46 fun _ w51 => K w51 := by
  rcases ho.2 with ⟨he, h0, _⟩ | ⟨g, oo, cap, cur, rfl, hFg, hblk, hnc, hcm, hcs, htk⟩
  · omega
  · try simp only [xP_nil, xP_pick, xP_func, xP_not, xP_add, xP_sub, xP_mul, xP_lss, xP_leq, xP_gtr, xP_geq, xP_max2, xP_min2, xR_eql, xR_neq, Nat.zero_add, Nat.add_zero, Nat.reduceAdd, List.getD_cons_zero, List.getD_cons_succ, xIf_true, xIf_false, FA_23_0, FA_23_1, FA_23_2, FA_23_3, FA_23_4, FA_32_0, FA_32_1, FA_32_2, FA_63_0, FA_63_1, FA_63_2, FA_63_3, FA_80_0, FA_80_1, FA_80_2, FA_85_0, FA_85_1, FA_85_2, LEN_24, LEN_25, LEN_30, LEN_33, LEN_58, LEN_82, LEN_134]
    rw [wrap64 (by omega) (by omega)]
    refine xE_call CF_26 (within_ok (by omega) (by omega) (by omega)) ?_
    rintro _ _ ⟨rfl, rfl⟩
    obtain ⟨wb1, wb2⟩ := within_bd (n := n) (lo := 0) (hi := (p.length : Int) - 1) (by omega)
    obtain ⟨i, hi⟩ := Int.eq_ofNat_of_zero_le wb1
    rw [hi] at wb2 ⊢
    have hip : i < p.length := by omega
    rw [Nat.mul_one] at htk hcs
    have hcurlen : oo + i < cur.length := by omega
    have hcell : cur[oo + i]? = some (.int .u8 (p[i]).toNat) := by
      have h1 : ((cur.drop oo).take p.length)[i]? = (p.flatMap encB)[i]? := by rw [htk]
      rw [List.getElem?_take_of_lt hip, List.getElem?_drop, flat_B, List.getElem?_map, List.getElem?_eq_getElem hip] at h1
      exact h1
    refine (xP_IAn SL_25 SZ_5 hip).2 ?_
    rw [Nat.mul_one]
    refine (ld1 ONE_5 (by rw [hblk.cell]; exact hcell)).2 ?_
    refine xP_xorB.2 ?_
    refine (xP_IAn SL_25 SZ_5 hip).2 ?_
    rw [Nat.mul_one]
    refine xE_store1 SZ_5 hblk hcurlen rfl fun w6 hb6 hk6 hz6 => ?_
    refine k i hip w6 ⟨by rw [flat_len encB_len, List.length_set, Nat.mul_one], .inr ⟨g, oo, cap, _, rfl, hFg, hb6, hnc, hcm, by rw [List.length_set, Nat.mul_one]; exact hcs, ?_⟩⟩ (by rw [hFg]; exact hk6)
    rw [Nat.mul_one, ← flip_set2, ← htk]
    exact set_window
/-- append([]byte{}, l...) -/
theorem copyS {l : List UInt8} {v : Value} {w : World} {K : Value → World → Prop} (hv : SlT w encB v l) (hl : l.length ≤ 1000000000)
    (k : ∀ u w' F, Own w' 5 1 u l.length (l.flatMap encB) F → (∀ g ∈ F, w.heap.size ≤ g) → Kept [] w w' → K u w') :
    xE Tryd.prog (sBuildSlice 25 0 #[]) w fun v33 w30 => xE Tryd.prog (sB .append #[25, 25] #[v33, v]) w30 fun u w' => K u w' := by
  refine xE_slice0 EL_25 fun w1 ho1 hk1 hz1 => ?_
  refine xE_appendSrc EL_25 ho1 (Src.ofSlT UB (hv.kept0 hk1) encB_len encB_one) (by omega) (by unfold maxLen; omega) fun u w2 F2 ho2 hk2 hF2 _ => ?_
  rw [Nat.zero_add, List.nil_append] at ho2
  refine k u w2 F2 ho2 (fun g hg => ?_) (hk1.then hk2 (by intro k hk; simp at hk; subst hk; exact .inr (Nat.le_refl _)))
  rcases hF2 g hg with h | h
  · simp at h; omega
  · omega
/-- append([]byte{}, b[:min(len(b), m)]...) -/
theorem cutS {b : List UInt8} {v : Value} {m : Nat} {w : World} {K : Value → World → Prop} (hv : SlT w encB v b) (hm : m ≤ 1000000)
    (k : ∀ u w' F, Own w' 5 1 u (b.take m).length ((b.take m).flatMap encB) F → (∀ g ∈ F, w.heap.size ≤ g) → Kept [] w w' → K u w') :
    xE Tryd.prog (sBuildSlice 25 0 #[]) w fun v33 w30 => xP Tryd.prog (sB .len #[25] #[v]) fun v36 => xP Tryd.prog (sB .min #[3, 3] #[v36, .int .i64 (m : Nat)]) fun v37 => xP Tryd.prog (sSlice 25 v none (some v37) none) fun v38 =>
      xE Tryd.prog (sB .append #[25, 25] #[v33, v38]) w30 fun u w' => K u w' := by
  refine xE_slice0 EL_25 fun w1 ho1 hk1 hz1 => ?_
  obtain ⟨ba, bc, rfl, hbc, hbr⟩ := hv
  try simp only [xP_nil, xP_pick, xP_func, xP_not, xP_add, xP_sub, xP_mul, xP_lss, xP_leq, xP_gtr, xP_geq, xP_max2, xP_min2, xR_eql, xR_neq, Nat.zero_add, Nat.add_zero, Nat.reduceAdd, List.getD_cons_zero, List.getD_cons_succ, xIf_true, xIf_false, FA_23_0, FA_23_1, FA_23_2, FA_23_3, FA_23_4, FA_32_0, FA_32_1, FA_32_2, FA_63_0, FA_63_1, FA_63_2, FA_63_3, FA_80_0, FA_80_1, FA_80_2, FA_85_0, FA_85_1, FA_85_2, LEN_24, LEN_25, LEN_30, LEN_33, LEN_58, LEN_82, LEN_134]
  have hmin : (min ((b.length : Nat) : Int) (m : Nat)).toNat ≤ b.length := by omega
  refine (xP_upto SL_25 SZ_5 (by omega) (by omega)).2 ?_
  have hsub := SlT.upto encB_len (SlT.kept0 ⟨ba, bc, rfl, hbc, hbr⟩ hk1) hmin
  have het : b.take (min ((b.length : Nat) : Int) (m : Nat)).toNat = b.take m := by
    rcases Nat.le_total b.length m with h | h
    · rw [List.take_of_length_le (by omega), List.take_of_length_le h]
    · rw [show (min ((b.length : Nat) : Int) (m : Nat)).toNat = m by omega]
  rw [het] at hsub
  have hsl : SlT w1 encB (.slice (if bc = 0 then ba else ba.map (·.add (0 * 1))) (min ((b.length : Nat) : Int) (m : Nat)).toNat bc) (b.take m) := hsub
  have hlen : (b.take m).length ≤ m := by rw [List.length_take]; omega
  refine xE_appendSrc EL_25 ho1 (Src.ofSlT UB hsl encB_len encB_one) (by omega) (by unfold maxLen; omega) fun u w2 F2 ho2 hk2 hF2 _ => ?_
  rw [Nat.zero_add, List.nil_append] at ho2
  refine k u w2 F2 ho2 (fun g hg => ?_) (hk1.then hk2 (by intro k hk; simp at hk; subst hk; exact .inr (Nat.le_refl _)))
  rcases hF2 g hg with h | h
  · simp at h; omega
  · omega
theorem ownBytes {w : World} {v : Value} {l : List UInt8} {F : List Nat} (h : Own w 5 1 v l.length (l.flatMap encB) F) : SlT w encB v l := h.slT encB_len (by omega)
end Go.Proofs.YtclojjiiiejfpaaDoor
