import Derived.Test.YtbfaglbfpmnnmaaXrReply5
namespace Go.Proofs.Ytbfaglbfpmnnmaa
set_option linter.unusedSimpArgs false
set_option linter.unusedVariables false
open Go Go.X

theorem fit_ok {r : Rp} (h : r.Fit) : okRp r := ⟨by have := h.names.1; omega, by have := h.batches.1; omega, fun p hp => by have := h.batches.2 p hp; omega⟩
theorem bytes_len (r : Rp) : r.bytes.length ≤ 10000 := by
  cases hr : r.right with
  | false => rw [rp_bytes_no r hr]; simp
  | true =>
    rw [rp_bytes r hr, rpB_len]
    have h := ((rp_right r).1 hr).1
    have h1 := texts_len (m := 24) r.names (fun s hs => h.names.2 s hs)
    have h2 := texts_len (m := 608) (r.batches.map textT) (fun s hs => by
      obtain ⟨p, hp, rfl⟩ := List.mem_map.1 hs
      have := h.batches.2 p hp
      rw [textT_size]; omega)
    rw [List.length_map] at h2
    have h3 : r.names.length * (2 + 24) ≤ 8 * (2 + 24) := Nat.mul_le_mul_right _ h.names.1
    have h4 : r.batches.length * (2 + 608) ≤ 4 * (2 + 608) := Nat.mul_le_mul_right _ h.batches.1
    omega
theorem isRp0 (w : World) : IsRp w rawRp0 rpZero := ⟨rfl, rfl, rfl, rfl, SlT.nil_ w _, SlT.nil_ w _⟩
/-- Bytes of one's own, laid behind w. -/
def OwnB (w w' : World) (v : Value) (l : List UInt8) : Prop := ∃ F, Own w' 5 1 v l.length (l.flatMap encB) F ∧ (∀ g ∈ F, w.heap.size ≤ g)
theorem OwnB.slT {w w' : World} {v : Value} {l : List UInt8} (h : OwnB w w' v l) : SlT w' encB v l := by
  obtain ⟨F, ho, _⟩ := h
  exact ho.slT encB_len (by omega)
theorem erV_neq {e : Er} {w : World} {K : Value → Prop} : xR Try.prog (sEq .neq 38 true (erV e) .nilIface) w K ↔ K (.bool true) := by
  cases e <;> exact xR_neqI IFE
/-- b[i] ^= x -/
theorem flip_set {p : List UInt8} {i : Nat} {v : UInt8} (hi : i < p.length) : (p.flatMap encB).set i (.int .u8 v.toNat) = (p.set i v).flatMap encB := by
  rw [flat_B, flat_B, List.map_set]

theorem canon_ok {x : RawRp} {r : Rp} {b : List UInt8} {a1 : Value} {n : Int} {c : UInt8} {w : World} (h : IsRp w x r) (hb : SlT w encB a1 b) :
    Gives Try.prog 5 #[vR x, a1, .int .i64 n, .int .u8 c.toNat] w fun u w' => u = .bool true ∧ Kept [] w w' := by
  refine C_stavelaw23_ReplyCanon ?_
  unfold S_stavelaw23_ReplyCanon
  refine xE_box fun w1 hb1 hk1 hz1 => ?_
  have hb1' : Blk w1 w.heap.size 28 (encR x) := hb1
  refine xE_slice0 EL_22 fun w2 ho2 hk2 hz2 => ?_
  obtain ⟨L0, L1, L2, L3, L4, L5, L6⟩ := ldR (hb1'.kept hk2 (by simp))
  have hk02 : Kept [] w w2 := hk1.then hk2 (by simp)
  have hz1' : w1.heap.size = w.heap.size + 1 := hz1
  simp only [L6]
  refine xE_call CF_10 (few_ok (h.kept0 hk02)) ?_
  rintro _ w3 ⟨y, rfl, hy, hk3⟩
  refine xE_call CF_6 (rPut_ok hy (fewR_ok r)) ?_
  intro u w4 hfr
  have hsrc := hfr.src
  obtain ⟨F4, ho4, hF4, hk4⟩ := hfr
  have hpl := bytes_len (fewR r)
  generalize (fewR r).bytes = p at *
  have hk24 : Kept [] w2 w4 := hk3.then hk4 (by simp)
  have hk04 : Kept [] w w4 := hk02.then hk24 (by simp)
  refine xE_appendSrc EL_22 (ho2.kept hk24 (by simp)) hsrc (by omega) (by unfold maxLen; omega) fun o w5 F5 ho5 hk5 hF5 hone5 => ?_
  rw [Nat.zero_add, List.nil_append] at ho5
  have hk05 : Kept [] w w5 := hk04.then hk5 (by intro k hk; simp at hk; subst hk; exact .inr (by omega))
  have hF5' : ∀ g ∈ F5, w.heap.size ≤ g := fun g hg => by
    have := hk04.size
    rcases hF5 g hg with h | h
    · simp at h; omega
    · omega
  refine xJoin_of (fun vs w' => ∃ v own, vs = [v] ∧ OwnB w w' v own ∧ own.length ≤ 10000 ∧ Kept [] w w') ?_ ?_
  · obtain ⟨oa, oc, rfl, hoc, hor⟩ := ho5.slice
    simp only [xP_nil, xP_pick, xP_func, xP_not, xP_add, xP_sub, xP_mul, xP_lss, xP_leq, xP_gtr, xP_geq, xP_max2, xP_min2, xR_eql, xR_neq, Nat.zero_add, Nat.add_zero, Nat.reduceAdd, List.getD_cons_zero, List.getD_cons_succ, xIf_true, xIf_false, FA_28_0, FA_28_1, FA_28_2, FA_28_3, FA_28_4, FA_28_5, FA_33_0, FA_33_1, FA_54_0, FA_54_1, FA_54_2, FA_64_0, FA_64_1, FA_64_2, FA_66_0, FA_66_1, FA_66_2, FA_66_3, FA_66_4, LEN_22, LEN_25, LEN_26, LEN_47, LEN_50, LEN_81, xIf_dec]
    refine ⟨fun hnil => ?_, fun hne => ?_⟩
    · refine xE_slice0 EL_22 fun w6 ho6 hk6 hz6 => ?_
      obtain ⟨ba, bc, rfl, hbc, hbr⟩ := hb
      simp only [xP_nil, xP_pick, xP_func, xP_not, xP_add, xP_sub, xP_mul, xP_lss, xP_leq, xP_gtr, xP_geq, xP_max2, xP_min2, xR_eql, xR_neq, Nat.zero_add, Nat.add_zero, Nat.reduceAdd, List.getD_cons_zero, List.getD_cons_succ, xIf_true, xIf_false, FA_28_0, FA_28_1, FA_28_2, FA_28_3, FA_28_4, FA_28_5, FA_33_0, FA_33_1, FA_54_0, FA_54_1, FA_54_2, FA_64_0, FA_64_1, FA_64_2, FA_66_0, FA_66_1, FA_66_2, FA_66_3, FA_66_4, LEN_22, LEN_25, LEN_26, LEN_47, LEN_50, LEN_81]
      have hk06 : Kept [] w w6 := hk05.then hk6 (by simp)
      have hmin : (min ((b.length : Nat) : Int) 60).toNat ≤ b.length := by omega
      refine (xP_upto SL_22 SZ_5 (by omega) (by omega)).2 ?_
      have hsub := SlT.upto encB_len (SlT.kept0 ⟨ba, bc, rfl, hbc, hbr⟩ hk06) hmin
      have hsl : SlT w6 encB (.slice (if bc = 0 then ba else ba.map (·.add (0 * 1))) (min ((b.length : Nat) : Int) 60).toNat bc) (b.take (min ((b.length : Nat) : Int) 60).toNat) := hsub
      have hlen : (b.take (min ((b.length : Nat) : Int) 60).toNat).length ≤ 60 := by rw [List.length_take]; omega
      refine xE_appendSrc EL_22 ho6 (Src.ofSlT UB hsl encB_len encB_one) (by omega) (by unfold maxLen; omega) fun o' w7 F7 ho7 hk7 hF7 _ => ?_
      rw [Nat.zero_add, List.nil_append] at ho7
      have := hk05.size
      refine ⟨o', _, rfl, ⟨F7, ho7, fun g hg => ?_⟩, by omega, hk06.then hk7 (by intro k hk; simp at hk; subst hk; exact .inr (by omega))⟩
      rcases hF7 g hg with h | h
      · simp at h; omega
      · have := hk6.size; omega
    · have hpos : 0 < p.length := by omega
      rw [wrap64 (by omega) (by omega)]
      refine xE_call CF_8 (within_ok (by omega) (by omega) (by omega)) ?_
      rintro _ _ ⟨rfl, rfl⟩
      obtain ⟨wb1, wb2⟩ := within_bd (n := n) (lo := 0) (hi := (p.length : Int) - 1) (by omega)
      obtain ⟨i, hi⟩ := Int.eq_ofNat_of_zero_le wb1
      rw [hi] at wb2 ⊢
      have hip : i < p.length := by omega
      rcases ho5.2 with ⟨he, h0, _⟩ | ⟨g, oo, cap, cur, he, hFg, hblk, hnc, hcm, hcs, htk⟩
      · omega
      · cases he
        rw [Nat.mul_one] at htk hcs
        have hcurlen : oo + i < cur.length := by omega
        have hcell : cur[oo + i]? = some (.int .u8 (p[i]).toNat) := by
          have h1 : ((cur.drop oo).take p.length)[i]? = (p.flatMap encB)[i]? := by rw [htk]
          rw [List.getElem?_take_of_lt hip, List.getElem?_drop, flat_B, List.getElem?_map, List.getElem?_eq_getElem hip] at h1
          exact h1
        refine (xP_IAn SL_22 SZ_5 hip).2 ?_
        rw [Nat.mul_one]
        refine (ld1 ONE_5 (by rw [hblk.cell]; exact hcell)).2 ?_
        refine xP_xorB.2 ?_
        refine (xP_IAn SL_22 SZ_5 hip).2 ?_
        rw [Nat.mul_one]
        refine xE_store1 SZ_5 hblk hcurlen rfl fun w6 hb6 hk6 hz6 => ?_
        have hg : w.heap.size ≤ g := hF5' g (by rw [hFg]; simp)
        refine ⟨_, p.set i (p[i] ^^^ c), rfl, ⟨F5, ⟨by rw [flat_len encB_len], .inr ⟨g, oo, oc, _, ?_, hFg, hb6, by rw [List.length_set]; exact hnc, hcm, by rw [List.length_set, Nat.mul_one]; exact hcs, ?_⟩⟩, hF5'⟩, by rw [List.length_set]; omega, hk05.then hk6 (by intro k hk; simp at hk; subst hk; exact .inr hg)⟩
        · rw [List.length_set]
        · rw [List.length_set, Nat.mul_one, ← flip_set hip, ← htk]
          exact set_window
  · rintro _ _ w6 ⟨v, own, rfl, hown, hol, hk6⟩
    simp only [xP_nil, xP_pick, xP_func, xP_not, xP_add, xP_sub, xP_mul, xP_lss, xP_leq, xP_gtr, xP_geq, xP_max2, xP_min2, xR_eql, xR_neq, Nat.zero_add, Nat.add_zero, Nat.reduceAdd, List.getD_cons_zero, List.getD_cons_succ, xIf_true, xIf_false, FA_28_0, FA_28_1, FA_28_2, FA_28_3, FA_28_4, FA_28_5, FA_33_0, FA_33_1, FA_54_0, FA_54_1, FA_54_2, FA_64_0, FA_64_1, FA_64_2, FA_66_0, FA_66_1, FA_66_2, FA_66_3, FA_66_4, LEN_22, LEN_25, LEN_26, LEN_47, LEN_50, LEN_81]
    refine xE_call CF_11 (rGet_ok hown.slT (by omega)) ?_
    rintro res w7 ⟨hk7, hg⟩
    have hk07 : Kept [] w w7 := hk6.then hk7 (by simp)
    cases hgg : rpGet own with
    | error e =>
      rw [hgg] at hg
      subst hg
      simp only [xP_ex0, xP_ex1]
      refine xE_alloc Z_28 fun w8 hb8 hk8 hz8 => ?_
      refine xE_storeN (l1 := []) (l2 := encR rawRp0) (l3 := []) SZ_28 hb8 rfl rfl rfl (isRp0 w).one fun w9 hb9 hk9 hz9 => ?_
      have hk79 : Kept [] w7 w9 := hk8.trans hk9 (by simp) (by simp)
      have hk09 : Kept [] w w9 := hk07.then hk79 (by simp)
      obtain ⟨M0, M1, M2, M3, M4, M5, M6⟩ := ldR (x := rawRp0) (by simpa [vR, Value.cells] using hb9)
      refine erV_neq.2 ?_
      simp only [xP_nil, xP_pick, xP_func, xP_not, xP_add, xP_sub, xP_mul, xP_lss, xP_leq, xP_gtr, xP_geq, xP_max2, xP_min2, xR_eql, xR_neq, Nat.zero_add, Nat.add_zero, Nat.reduceAdd, List.getD_cons_zero, List.getD_cons_succ, xIf_true, xIf_false, FA_28_0, FA_28_1, FA_28_2, FA_28_3, FA_28_4, FA_28_5, FA_33_0, FA_33_1, FA_54_0, FA_54_1, FA_54_2, FA_64_0, FA_64_1, FA_64_2, FA_66_0, FA_66_1, FA_66_2, FA_66_3, FA_66_4, LEN_22, LEN_25, LEN_26, LEN_47, LEN_50, LEN_81, M6]
      refine (xP_build build0).2 ?_
      refine xE_call CF_12 (replies_ok (isRp0 w9) (isRp0 w9) (by simp [rpZero]) (by simp [rpZero])) ?_
      rintro _ w10 ⟨rfl, hk10⟩
      rw [(rpEq_iff rpZero rpZero).2 rfl]
      simp only [xP_nil, xP_pick, xP_func, xP_not, xP_add, xP_sub, xP_mul, xP_lss, xP_leq, xP_gtr, xP_geq, xP_max2, xP_min2, xR_eql, xR_neq, Nat.zero_add, Nat.add_zero, Nat.reduceAdd, List.getD_cons_zero, List.getD_cons_succ, xIf_true, xIf_false, FA_28_0, FA_28_1, FA_28_2, FA_28_3, FA_28_4, FA_28_5, FA_33_0, FA_33_1, FA_54_0, FA_54_1, FA_54_2, FA_64_0, FA_64_1, FA_64_2, FA_66_0, FA_66_1, FA_66_2, FA_66_3, FA_66_4, LEN_22, LEN_25, LEN_26, LEN_47, LEN_50, LEN_81]
      refine xE_call CF_3 replyRuns_ok ?_
      rintro _ w11 ⟨rfl, hk11⟩
      exact ⟨rfl, (hk09.then hk10 (by simp)).then hk11 (by simp)⟩
    | ok g =>
      rw [hgg] at hg
      obtain ⟨xg, rfl, hxg⟩ := hg
      obtain ⟨hgr, hgb⟩ := rpGet_inv hgg
      have hok := fit_ok ((rp_right g).1 hgr).1
      simp only [xP_ex0, xP_ex1]
      refine xE_alloc Z_28 fun w8 hb8 hk8 hz8 => ?_
      refine xE_storeN (l1 := []) (l2 := encR rawRp0) (l3 := []) SZ_28 hb8 rfl rfl rfl hxg.one fun w9 hb9 hk9 hz9 => ?_
      have hk79 : Kept [] w7 w9 := hk8.trans hk9 (by simp) (by simp)
      have hk09 : Kept [] w w9 := hk07.then hk79 (by simp)
      have hb9' : Blk w9 w7.heap.size 28 (encR xg) := by simpa [vR, Value.cells] using hb9
      obtain ⟨M0, M1, M2, M3, M4, M5, M6⟩ := ldR hb9'
      refine (xR_neqN IFE).2 ?_
      simp only [xP_nil, xP_pick, xP_func, xP_not, xP_add, xP_sub, xP_mul, xP_lss, xP_leq, xP_gtr, xP_geq, xP_max2, xP_min2, xR_eql, xR_neq, Nat.zero_add, Nat.add_zero, Nat.reduceAdd, List.getD_cons_zero, List.getD_cons_succ, xIf_true, xIf_false, FA_28_0, FA_28_1, FA_28_2, FA_28_3, FA_28_4, FA_28_5, FA_33_0, FA_33_1, FA_54_0, FA_54_1, FA_54_2, FA_64_0, FA_64_1, FA_64_2, FA_66_0, FA_66_1, FA_66_2, FA_66_3, FA_66_4, LEN_22, LEN_25, LEN_26, LEN_47, LEN_50, LEN_81, M6]
      refine xE_call CF_9 (rright_ok (hxg.kept0 hk79) hok) ?_
      rintro _ w10 ⟨rfl, hk10⟩
      obtain ⟨N0, N1, N2, N3, N4, N5, N6⟩ := ldR (hb9'.kept hk10 (by simp))
      rw [hgr]
      simp only [xP_nil, xP_pick, xP_func, xP_not, xP_add, xP_sub, xP_mul, xP_lss, xP_leq, xP_gtr, xP_geq, xP_max2, xP_min2, xR_eql, xR_neq, Nat.zero_add, Nat.add_zero, Nat.reduceAdd, List.getD_cons_zero, List.getD_cons_succ, xIf_true, xIf_false, FA_28_0, FA_28_1, FA_28_2, FA_28_3, FA_28_4, FA_28_5, FA_33_0, FA_33_1, FA_54_0, FA_54_1, FA_54_2, FA_64_0, FA_64_1, FA_64_2, FA_66_0, FA_66_1, FA_66_2, FA_66_3, FA_66_4, LEN_22, LEN_25, LEN_26, LEN_47, LEN_50, LEN_81, N6]
      refine xE_call CF_6 (rPut_ok ((hxg.kept0 hk79).kept0 hk10) hok) ?_
      rintro u w11 ⟨F11, ho11, hF11, hk11⟩
      rw [hgb] at ho11
      have hk711 : Kept [] w7 w11 := (hk79.then hk10 (by simp)).then hk11 (by simp)
      refine xE_call CF_7 (sameB_ok (ho11.slT encB_len (by omega)) ((hown.slT.kept0 hk7).kept0 hk711) (by omega)) ?_
      rintro _ w12 ⟨rfl, hk12⟩
      simp only [xP_nil, xP_pick, xP_func, xP_not, xP_add, xP_sub, xP_mul, xP_lss, xP_leq, xP_gtr, xP_geq, xP_max2, xP_min2, xR_eql, xR_neq, Nat.zero_add, Nat.add_zero, Nat.reduceAdd, List.getD_cons_zero, List.getD_cons_succ, xIf_true, xIf_false, FA_28_0, FA_28_1, FA_28_2, FA_28_3, FA_28_4, FA_28_5, FA_33_0, FA_33_1, FA_54_0, FA_54_1, FA_54_2, FA_64_0, FA_64_1, FA_64_2, FA_66_0, FA_66_1, FA_66_2, FA_66_3, FA_66_4, LEN_22, LEN_25, LEN_26, LEN_47, LEN_50, LEN_81, decide_true]
      refine xE_call CF_3 replyRuns_ok ?_
      rintro _ w13 ⟨rfl, hk13⟩
      exact ⟨rfl, ((hk07.then hk711 (by simp)).then hk12 (by simp)).then hk13 (by simp)⟩
end Go.Proofs.Ytbfaglbfpmnnmaa
