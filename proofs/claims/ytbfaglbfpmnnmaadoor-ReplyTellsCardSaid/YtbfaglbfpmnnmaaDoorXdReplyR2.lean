import Derived.Test.YtbfaglbfpmnnmaaDoorXdReplyR1
namespace Go.Proofs.YtbfaglbfpmnnmaaDoor
set_option linter.unusedSimpArgs false
set_option linter.unusedVariables false
set_option maxRecDepth 100000
attribute [local irreducible] Go.X.xE
open Go Go.X Go.RowKit

theorem build0R : Tryd.prog.built 56 (#[] : Array (Nat × Value)).toList = some (encR rawRp0).toArray := by kernel_rfl
theorem vals_small {r : Rp} (hr : okRp r) : ∀ y ∈ r.vals, y.l.length ≤ 9223372036854775806 := by
  intro y hy
  have := hr.1
  have := hr.2.1
  simp [Rp.vals] at hy
  rcases hy with rfl | rfl | rfl | rfl | rfl | rfl <;> simp <;> omega
theorem drright_ok {x : RawRp} {r : Rp} {w : World} (h : IsRp w x r) (hr : okRp r) : Gives Tryd.prog 23 #[vR x] w fun u w' => u = .bool r.right ∧ Kept [] w w' := by
  refine C_staveref19_RightReply ?_
  unfold S_staveref19_RightReply
  refine xE_box fun w1 hb1 hk1 hz1 => ?_
  have hb1' : Blk w1 w.heap.size 56 (encR x) := hb1
  generalize eB : w.heap.size = B at *
  obtain ⟨L0, L1, L2, L3, L4, L5, L6⟩ := ldR hb1'
  obtain ⟨ba, bc, hbv, hbc, hbr⟩ := h.batches
  have hbat : SlT w1 encT x.bv r.batches := h.batches.kept0 hk1
  have hbl := hr.2.1
  simp only [xP_nil, xP_pick, xP_func, xP_not, xP_add, xP_sub, xP_mul, xP_lss, xP_leq, xP_gtr, xP_geq, xP_max2, xP_min2, xR_eql, xR_neq, Nat.zero_add, Nat.add_zero, Nat.reduceAdd, List.getD_cons_zero, List.getD_cons_succ, xIf_true, xIf_false, FA_25_0, FA_39_0, FA_41_0, FA_41_1, FA_41_2, FA_56_0, FA_56_1, FA_56_2, FA_56_3, FA_56_4, FA_56_5, FA_72_0, FA_79_0, FA_79_1, FA_93_0, FA_93_1, FA_93_2, FA_102_2, FA_123_0, FA_123_1, FA_123_2, FA_123_3, FA_123_4, FA_131_0, FA_131_1, FA_131_2, LEN_35, LEN_45, LEN_49, LEN_53, LEN_54, LEN_57, LEN_86, LEN_88, LEN_147, L5]
  rw [hbv]
  simp only [xP_nil, xP_pick, xP_func, xP_not, xP_add, xP_sub, xP_mul, xP_lss, xP_leq, xP_gtr, xP_geq, xP_max2, xP_min2, xR_eql, xR_neq, Nat.zero_add, Nat.add_zero, Nat.reduceAdd, List.getD_cons_zero, List.getD_cons_succ, xIf_true, xIf_false, FA_25_0, FA_39_0, FA_41_0, FA_41_1, FA_41_2, FA_56_0, FA_56_1, FA_56_2, FA_56_3, FA_56_4, FA_56_5, FA_72_0, FA_79_0, FA_79_1, FA_93_0, FA_93_1, FA_93_2, FA_102_2, FA_123_0, FA_123_1, FA_123_2, FA_123_3, FA_123_4, FA_131_0, FA_131_1, FA_131_2, LEN_35, LEN_45, LEN_49, LEN_53, LEN_54, LEN_57, LEN_86, LEN_88, LEN_147]
  rw [hbv] at hbat
  refine xLoop_of (fun vs w' => ∃ i : Nat, vs = [.int .i64 i] ∧ i ≤ r.batches.length ∧ (∀ j, j < i → ∀ p, r.batches[j]? = some p → 0 ≤ p.1) ∧ Kept [] w1 w')
    (fun vs _ => match vs with | [.int _ i] => r.batches.length - i.toNat | _ => 0) ⟨0, rfl, by omega, by omega, Kept.refl _ _⟩ ?_
  rintro _ _ w2 ⟨i, rfl, hi, hbef, hk12⟩
  have hk02 := hk1.then hk12 (by simp)
  simp only [xP_nil, xP_pick, xP_func, xP_not, xP_add, xP_sub, xP_mul, xP_lss, xP_leq, xP_gtr, xP_geq, xP_max2, xP_min2, xR_eql, xR_neq, Nat.zero_add, Nat.add_zero, Nat.reduceAdd, List.getD_cons_zero, List.getD_cons_succ, xIf_true, xIf_false, FA_25_0, FA_39_0, FA_41_0, FA_41_1, FA_41_2, FA_56_0, FA_56_1, FA_56_2, FA_56_3, FA_56_4, FA_56_5, FA_72_0, FA_79_0, FA_79_1, FA_93_0, FA_93_1, FA_93_2, FA_102_2, FA_123_0, FA_123_1, FA_123_2, FA_123_3, FA_123_4, FA_131_0, FA_131_1, FA_131_2, LEN_35, LEN_45, LEN_49, LEN_53, LEN_54, LEN_57, LEN_86, LEN_88, LEN_147, xIf_dec]
  refine ⟨fun hlt => ?_, fun hge => ?_⟩
  · have hlt' : i < r.batches.length := by omega
    refine (rowT.get hbat hk12 hlt').2 ?_
    refine xE_alloc Z_79 fun w3 hb3 hk3 hz3 => ?_
    refine xE_storeN (l1 := []) (l2 := encT (0, strEmpty)) (l3 := []) SZ_79 hb3 rfl rfl rfl (encT_one _) fun w4 hb4 hk4 hz4 => ?_
    have hb4' : Blk w4 w2.heap.size 79 (encT r.batches[i]) := by simpa [Value.cells, vT] using hb4
    have hk24 : Kept [] w2 w4 := hk3.trans hk4 (by simp) (by simp)
    obtain ⟨M0, M1, M2⟩ := ldT hb4'
    simp only [xP_nil, xP_pick, xP_func, xP_not, xP_add, xP_sub, xP_mul, xP_lss, xP_leq, xP_gtr, xP_geq, xP_max2, xP_min2, xR_eql, xR_neq, Nat.zero_add, Nat.add_zero, Nat.reduceAdd, List.getD_cons_zero, List.getD_cons_succ, xIf_true, xIf_false, FA_25_0, FA_39_0, FA_41_0, FA_41_1, FA_41_2, FA_56_0, FA_56_1, FA_56_2, FA_56_3, FA_56_4, FA_56_5, FA_72_0, FA_79_0, FA_79_1, FA_93_0, FA_93_1, FA_93_2, FA_102_2, FA_123_0, FA_123_1, FA_123_2, FA_123_3, FA_123_4, FA_131_0, FA_131_1, FA_131_2, LEN_35, LEN_45, LEN_49, LEN_53, LEN_54, LEN_57, LEN_86, LEN_88, LEN_147, M0, xIf_dec]
    refine ⟨fun hneg => ?_, fun hpos => ?_⟩
    · have : r.right = false := by
        unfold Rp.right
        have : (r.batches.any fun p => decide (p.1 < 0)) = true := List.any_eq_true.2 ⟨_, List.getElem_mem hlt', by simpa using hneg⟩
        rw [this]
        simp
      rw [this]
      exact ⟨rfl, hk02.then hk24 (by simp)⟩
    · rw [wrap64 (by omega) (by omega)]
      refine ⟨⟨i + 1, rfl, hlt', ?_, hk12.then hk24 (by simp)⟩, by omega⟩
      intro j hj p hp
      by_cases hji : j < i
      · exact hbef j hji p hp
      · obtain rfl : j = i := by omega
        rw [List.getElem?_eq_getElem hlt'] at hp
        cases hp
        omega
  · have hany : (r.batches.any fun p => decide (p.1 < 0)) = false := by
      rw [List.any_eq_false]
      intro p hp
      obtain ⟨j, hj, rfl⟩ := List.getElem_of_mem hp
      have := hbef j (by omega) _ (List.getElem?_eq_getElem hj)
      simp
      omega
    have hbd : Blk w2.drew B 56 (encR x) := blk_drew (hb1'.kept hk12 (by simp))
    obtain ⟨M0, M1, M2, M3, M4, M5, M6⟩ := ldR hbd
    simp only [M6]
    refine xE_call CF_40 dfields_ok ?_
    rintro fv w3 ⟨hfv, hk3⟩
    have hb3 := hbd.kept hk3 (by simp)
    refine (stillN (l := encR x) AGG_56 hb3.at).2 ?_
    have hk03 := hk02.drew.then hk3 (by simp)
    refine xE_call CF_41 (dvals_ok (h.kept0 hk03) hr) ?_
    rintro vv w4 ⟨raws, hvv, hrl, hpair, hk4⟩
    refine xE_call CF_39 (dput_ok (hfv.kept0 hk4) rsmall (by simp [rpFields]) hvv hrl hpair (by simp [Rp.vals]) (vals_small hr)) ?_
    intro u w5 hp
    have hk04 := hk03.then hk4 (by simp)
    unfold DPutPost at hp
    unfold Rp.right Rp.put
    rw [hany]
    cases hg : gramPut rpFields r.vals with
    | error e =>
      rw [hg] at hp
      obtain ⟨rfl, hk5⟩ := hp
      simp only [xP_t0, xP_t1, xP_t2]
      simp only [xR_eql]
      have : e.2 ≠ 0 := by
        have := gramPut_err hg
        omega
      rw [decide_eq_false this]
      exact ⟨rfl, hk04.then hk5 (by simp)⟩
    | ok bs =>
      rw [hg] at hp
      obtain ⟨u', rfl, hfr⟩ := hp
      simp only [xP_t0, xP_t1, xP_t2]
      simp only [xR_eql]
      exact ⟨rfl, hk04.then hfr.keptI (by simp)⟩
theorem drPut_ok {x : RawRp} {r : Rp} {w : World} (h : IsRp w x r) (hr : okRp r) : Gives Tryd.prog 25 #[vR x] w fun u w' => Fresh w w' u r.bytes := by
  refine C_staveref19_PutReply ?_
  unfold S_staveref19_PutReply
  refine xE_box fun w1 hb1 hk1 hz1 => ?_
  have hb1' : Blk w1 w.heap.size 56 (encR x) := hb1
  obtain ⟨L0, L1, L2, L3, L4, L5, L6⟩ := ldR hb1'
  simp only [L6]
  refine xE_call CF_23 (drright_ok (h.kept0 hk1) hr) ?_
  rintro _ w2 ⟨rfl, hk2⟩
  have hk02 := hk1.then hk2 (by simp)
  simp only [xP_nil, xP_pick, xP_func, xP_not, xP_add, xP_sub, xP_mul, xP_lss, xP_leq, xP_gtr, xP_geq, xP_max2, xP_min2, xR_eql, xR_neq, Nat.zero_add, Nat.add_zero, Nat.reduceAdd, List.getD_cons_zero, List.getD_cons_succ, xIf_true, xIf_false, FA_25_0, FA_39_0, FA_41_0, FA_41_1, FA_41_2, FA_56_0, FA_56_1, FA_56_2, FA_56_3, FA_56_4, FA_56_5, FA_72_0, FA_79_0, FA_79_1, FA_93_0, FA_93_1, FA_93_2, FA_102_2, FA_123_0, FA_123_1, FA_123_2, FA_123_3, FA_123_4, FA_131_0, FA_131_1, FA_131_2, LEN_35, LEN_45, LEN_49, LEN_53, LEN_54, LEN_57, LEN_86, LEN_88, LEN_147, xIf_bool]
  refine ⟨fun hno => ?_, fun hyes => ?_⟩
  · have : r.bytes = [] := by
      unfold Rp.bytes
      rw [if_neg (by simpa using hno)]
    rw [this]
    exact ⟨[], own_nil _ _ _, by simp, hk02⟩
  · obtain ⟨bs, hg, hby⟩ := right_put (r := r) (by simpa using hyes)
    have hbd : Blk w2.drew w.heap.size 56 (encR x) := blk_drew (hb1'.kept hk2 (by simp))
    obtain ⟨M0, M1, M2, M3, M4, M5, M6⟩ := ldR hbd
    simp only [M6]
    refine xE_call CF_40 dfields_ok ?_
    rintro fv w3 ⟨hfv, hk3⟩
    refine (stillN (l := encR x) AGG_56 (hbd.kept hk3 (by simp)).at).2 ?_
    have hk03 := hk02.drew.then hk3 (by simp)
    refine xE_call CF_41 (dvals_ok (h.kept0 hk03) hr) ?_
    rintro vv w4 ⟨raws, hvv, hrl, hpair, hk4⟩
    refine xE_call CF_39 (dput_ok (hfv.kept0 hk4) rsmall (by simp [rpFields]) hvv hrl hpair (by simp [Rp.vals]) (vals_small hr)) ?_
    intro u w5 hp
    unfold DPutPost at hp
    rw [hg] at hp
    obtain ⟨u', rfl, hfr⟩ := hp
    simp only [xP_t0, xP_t1, xP_t2]
    rw [hby]
    exact hfr.after (hk03.then hk4 (by simp))

def DRGPost (w : World) (b : List UInt8) (r : Value) (w' : World) : Prop := Kept [] w w' ∧ match rpGet b with
  | .ok y => ∃ x, r = .tuple #[vR x, .int .i64 0] ∧ IsRp w' x y
  | .error e => r = .tuple #[vR rawRp0, .int .i64 e.kind]
theorem UU8' : Tryd.prog.underlying 5 = some (.int .u8) := by kernel_rfl
theorem drGet_ok {b : List UInt8} {u : Value} {w : World} (hv : SlT w encB u b) (hbl : b.length ≤ 4611686018427387904) : Gives Tryd.prog 28 #[u] w fun r w' => DRGPost w b r w' := by
  refine C_staveref19_GetReply ?_
  unfold S_staveref19_GetReply
  refine xE_alloc Z_56 fun w1 hb1 hk1 hz1 => ?_
  have hb1' : Blk w1 w.heap.size 56 (encR rawRp0) := hb1
  generalize eB : w.heap.size = B at *
  refine xE_call CF_40 dfields_ok ?_
  rintro fv w2 ⟨hfv, hk2⟩
  have hk02 : Kept [] w w2 := hk1.then hk2 (by simp)
  refine xE_call CF_45 (dget_ok hfv rsmall (by simp [rpFields]) (hv.kept0 hk02) hbl) ?_
  rintro v12 w3 ⟨hk3, hg⟩
  have hk03 : Kept [] w w3 := hk02.then hk3 (by simp)
  have hb3 : Blk w3 B 56 (encR rawRp0) := (hb1'.kept hk2 (by simp)).kept hk3 (by simp)
  -- the way out with an error
  have bad : ∀ (e : Er) (k : Int) (w' : World), Kept [] w w' → Blk w' B 56 (encR rawRp0) → rpGet b = .error e → k = e.kind →
      xP Tryd.prog (sBuild 56 #[]) fun v => xE Tryd.prog (sStore 56 (.pointer (some ⟨B, 0, none⟩)) v) w' fun _ w4 => xR Tryd.prog (sLoad 56 (.pointer (some ⟨B, 0, none⟩))) w4 fun r => Ret (fun r w' => DRGPost w b r w') (.returned (.tuple #[r, .int .i64 k])) w4 := by
    intro e k w' hk' hb' he hke
    refine (xP_build build0R).2 ?_
    refine xE_storeN (l1 := []) (l2 := encR rawRp0) (l3 := []) SZ_56 hb' rfl rfl rfl (isRp0 w).one fun w4 hb4 hk4 hz4 => ?_
    obtain ⟨M0, M1, M2, M3, M4, M5, M6⟩ := ldR (x := rawRp0) (by simpa [Value.cells] using hb4)
    simp only [M6]
    refine ⟨hk'.then hk4 (by simp; omega), ?_⟩
    rw [he, hke]
  cases hgg : gramGet rpFields b with
  | error e =>
    rw [hgg] at hg
    obtain ⟨rfl, hne⟩ := hg
    simp only [xP_t0, xP_t1, xP_t2]
    simp only [xP_nil, xP_pick, xP_func, xP_not, xP_add, xP_sub, xP_mul, xP_lss, xP_leq, xP_gtr, xP_geq, xP_max2, xP_min2, xR_eql, xR_neq, Nat.zero_add, Nat.add_zero, Nat.reduceAdd, List.getD_cons_zero, List.getD_cons_succ, xIf_true, xIf_false, FA_25_0, FA_39_0, FA_41_0, FA_41_1, FA_41_2, FA_56_0, FA_56_1, FA_56_2, FA_56_3, FA_56_4, FA_56_5, FA_72_0, FA_79_0, FA_79_1, FA_93_0, FA_93_1, FA_93_2, FA_102_2, FA_123_0, FA_123_1, FA_123_2, FA_123_3, FA_123_4, FA_131_0, FA_131_1, FA_131_2, LEN_35, LEN_45, LEN_49, LEN_53, LEN_54, LEN_57, LEN_86, LEN_88, LEN_147, ne_eq, hne, not_false_eq_true, decide_true]
    exact bad (.flt opRG 0 (.flt opG e.1 (.no e.2))) _ w3 hk03 hb3 (by unfold rpGet; rw [hgg]) rfl
  | ok vs =>
    rw [hgg] at hg
    obtain ⟨o, raws, rfl, ho, hrow, hfrr, hone⟩ := hg
    simp only [xP_t0, xP_t1, xP_t2]
    simp only [xP_nil, xP_pick, xP_func, xP_not, xP_add, xP_sub, xP_mul, xP_lss, xP_leq, xP_gtr, xP_geq, xP_max2, xP_min2, xR_eql, xR_neq, Nat.zero_add, Nat.add_zero, Nat.reduceAdd, List.getD_cons_zero, List.getD_cons_succ, xIf_true, xIf_false, FA_25_0, FA_39_0, FA_41_0, FA_41_1, FA_41_2, FA_56_0, FA_56_1, FA_56_2, FA_56_3, FA_56_4, FA_56_5, FA_72_0, FA_79_0, FA_79_1, FA_93_0, FA_93_1, FA_93_2, FA_102_2, FA_123_0, FA_123_1, FA_123_2, FA_123_3, FA_123_4, FA_131_0, FA_131_1, FA_131_2, LEN_35, LEN_45, LEN_49, LEN_53, LEN_54, LEN_57, LEN_86, LEN_88, LEN_147, show decide ((0 : Int) ≠ 0) = false from rfl]
    have hl6 := gramGet_len hgg
    have hsm := getRest_small (gramGet_ok hgg).1
    have hsz := getRest_sz (gramGet_ok hgg).1
    rcases vs with _ | ⟨a, _ | ⟨c, _ | ⟨d, _ | ⟨e, _ | ⟨f, _ | ⟨g, _ | ⟨z, zz⟩⟩⟩⟩⟩⟩⟩ <;> simp [rpFields] at hl6
    obtain ⟨xa, xb, xc, xd, xe, xf, rfl, va, vb, vc, vd, ve, vf⟩ := row6 hrow
    have hfe : Fr w2.heap.size xe.lv := hfrr xe (by simp)
    have hz12 := hk2.size
    have hsf : f.l.length ≤ 255 := hsm f (by simp)
    have hsg : g.l.length ≤ 255 := hsm g (by simp)
    have hzg : ∀ s ∈ g.l, s.size ≤ 65535 := hsz g (by simp)
    have fl : ∀ (i : Nat) (x : RawV) (q : Nat) (X : TypeId) (uu : Value) (K : Value → Value → Prop), [xa, xb, xc, xd, xe, xf][i]? = some x → fieldB Tryd.prog 93 q q = true → oneB Tryd.prog X = true → (encV x)[q]? = some uu →
        (∀ A : Addr, (∀ w'', Kept [] w3 w'' → w''.cell? A = some uu) → K (.pointer (some A)) uu) →
        ∀ w', Kept [] w3 w' → (xP Tryd.prog (sIA 88 o (.int .i64 (i : Nat))) fun v => xP Tryd.prog (sFA 93 v q) fun c => xR Tryd.prog (sLoad X c) w' fun u => K c u) := by
      intro i x q X uu K hx hB hX hu hK w' hk'
      obtain ⟨hi, hxe⟩ := List.getElem?_eq_some_iff.1 hx
      exact rowV.fldA ho hk' hi hB hX (by rw [hxe]; exact hu) hK
    have hkd : Kept [] w3 w3.drew := kept_drew [] w3
    refine fl 0 xa 0 3 _ _ rfl (by kernel_rfl) ONE_3 rfl (fun A0 h0 => ?_) _ hkd
    refine fl 1 xb 0 3 _ _ rfl (by kernel_rfl) ONE_3 rfl (fun A1 h1 => ?_) _ hkd
    refine fl 2 xc 0 3 _ _ rfl (by kernel_rfl) ONE_3 rfl (fun A2 h2 => ?_) _ hkd
    refine fl 3 xd 0 3 _ _ rfl (by kernel_rfl) ONE_3 rfl (fun A3 h3 => ?_) _ hkd
    refine fl 4 xe 2 53 _ _ rfl (by kernel_rfl) ONE_53 rfl (fun A4 h4 => ?_) _ hkd
    obtain ⟨na, nc, hnv, hnc, hnr⟩ := ve.2.2
    have hnames : SlT w3 encS xe.lv f.l := ve.2.2
    refine (xP_build (cells := (encR ⟨xa.n, xb.n, xc.n, xd.n, xe.lv, .slice none 0 0⟩).toArray) (by rw [hnv]; exact buildR)).2 ?_
    refine xE_alloc Z_56 fun w4 hb4 hk4 hz4 => ?_
    rw [show w3.drew.heap.size = w3.heap.size from rfl] at hb4 hz4 ⊢
    have hk34 : Kept [] w3 w4 := hkd.then hk4 (by simp)
    refine (still1 ONE_53 (h4 _ hk34)).2 ?_
    refine (still1 ONE_3 (h3 _ hk34)).2 ?_
    refine (still1 ONE_3 (h2 _ hk34)).2 ?_
    refine (still1 ONE_3 (h1 _ hk34)).2 ?_
    refine (still1 ONE_3 (h0 _ hk34)).2 ?_
    have hone5 : ∀ u ∈ encR ⟨xa.n, xb.n, xc.n, xd.n, xe.lv, .slice none 0 0⟩, u.oneCell' = true := by
      intro u hu
      rw [hnv] at hu
      simp [encR] at hu
      rcases hu with rfl | rfl | rfl | rfl | rfl | rfl <;> rfl
    refine xE_storeN (l1 := []) (l2 := encR rawRp0) (l3 := []) SZ_56 hb4 rfl rfl rfl hone5 fun w5 hb5 hk5 hz5 => ?_
    have hb5' : Blk w5 w3.heap.size 56 (encR ⟨xa.n, xb.n, xc.n, xd.n, xe.lv, .slice none 0 0⟩) := by simpa [Value.cells] using hb5
    have hk35 : Kept [] w3 w5 := hk34.then hk5 (by simp)
    have hB3 : B < w3.heap.size := hb3.lt
    generalize hR : w3.heap.size = R at *
    refine fl 5 xf 2 53 _ _ rfl (by kernel_rfl) ONE_53 rfl (fun A5 h5 => ?_) _ hk35
    obtain ⟨ga, gc, hgv, hgc, hgr⟩ := vf.2.2
    have hgl : SlT w5 encS xf.lv g.l := vf.2.2.kept0 hk35
    rw [hgv] at hgl ⊢
    try simp only [xP_nil, xP_pick, xP_func, xP_not, xP_add, xP_sub, xP_mul, xP_lss, xP_leq, xP_gtr, xP_geq, xP_max2, xP_min2, xR_eql, xR_neq, Nat.zero_add, Nat.add_zero, Nat.reduceAdd, List.getD_cons_zero, List.getD_cons_succ, xIf_true, xIf_false, FA_25_0, FA_39_0, FA_41_0, FA_41_1, FA_41_2, FA_56_0, FA_56_1, FA_56_2, FA_56_3, FA_56_4, FA_56_5, FA_72_0, FA_79_0, FA_79_1, FA_93_0, FA_93_1, FA_93_2, FA_102_2, FA_123_0, FA_123_1, FA_123_2, FA_123_3, FA_123_4, FA_131_0, FA_131_1, FA_131_2, LEN_35, LEN_45, LEN_49, LEN_53, LEN_54, LEN_57, LEN_86, LEN_88, LEN_147]
    have va0 : xa.n = a.n := va.1
    have hz5' : w5.heap.size = R + 1 := by omega
    refine xLoop_of (fun ls w' => ∃ (i : Nat) (o : Value) (F : List Nat), ls = [.int .i64 i] ∧ i ≤ g.l.length ∧ (∀ s ∈ g.l.take i, 8 ≤ s.size) ∧ Own w' 79 2 o i (((g.l.take i).map batchT).flatMap encT) F ∧ (∀ q ∈ F, R + 1 ≤ q) ∧ o.oneCell' = true ∧ Blk w' R 56 (encR ⟨xa.n, xb.n, xc.n, xd.n, xe.lv, o⟩) ∧ Kept [R] w5 w')
      (fun ls _ => match ls with | [.int _ i] => g.l.length - i.toNat | _ => 0) ⟨0, .slice none 0 0, [], rfl, by omega, by simp, own_nil _ _ _, by simp, rfl, hb5', Kept.refl _ _⟩ ?_
    rintro _ _ w6 ⟨i, o6, F6, rfl, hi, hall, ho6, hF6, hone6, hb6, hk56⟩
    have hz56 := hk56.size
    have hk36 : Kept [] w3 w6 := hk35.then hk56 (by simp; omega)
    have hk06 := hk03.then hk36 (by simp)
    have hB6 : Blk w6 B 56 (encR rawRp0) := hb3.kept hk36 (by simp)
    simp only [xP_nil, xP_pick, xP_func, xP_not, xP_add, xP_sub, xP_mul, xP_lss, xP_leq, xP_gtr, xP_geq, xP_max2, xP_min2, xR_eql, xR_neq, Nat.zero_add, Nat.add_zero, Nat.reduceAdd, List.getD_cons_zero, List.getD_cons_succ, xIf_true, xIf_false, FA_25_0, FA_39_0, FA_41_0, FA_41_1, FA_41_2, FA_56_0, FA_56_1, FA_56_2, FA_56_3, FA_56_4, FA_56_5, FA_72_0, FA_79_0, FA_79_1, FA_93_0, FA_93_1, FA_93_2, FA_102_2, FA_123_0, FA_123_1, FA_123_2, FA_123_3, FA_123_4, FA_131_0, FA_131_1, FA_131_2, LEN_35, LEN_45, LEN_49, LEN_53, LEN_54, LEN_57, LEN_86, LEN_88, LEN_147, xIf_dec]
    refine ⟨fun hlt => ?_, fun hge => ?_⟩
    · have hlt' : i < g.l.length := by omega
      obtain ⟨gb, go, gc', hgv', hgat⟩ := (vf.2.2).elem encS_len hlt'
      have hgl6 : SlT w6 encS (.slice ga g.l.length gc) g.l := by
        have := vf.2.2.kept0 hk36
        rwa [hgv] at this
      refine (rowS.get hgl6 (Kept.refl _ _) hlt').2 ?_
      have hsi := hzg _ (List.getElem_mem hlt')
      generalize hs : g.l[i] = s at *
      simp only [xP_lenS STR, xP_nil, xP_pick, xP_func, xP_not, xP_add, xP_sub, xP_mul, xP_lss, xP_leq, xP_gtr, xP_geq, xP_max2, xP_min2, xR_eql, xR_neq, Nat.zero_add, Nat.add_zero, Nat.reduceAdd, List.getD_cons_zero, List.getD_cons_succ, xIf_true, xIf_false, FA_25_0, FA_39_0, FA_41_0, FA_41_1, FA_41_2, FA_56_0, FA_56_1, FA_56_2, FA_56_3, FA_56_4, FA_56_5, FA_72_0, FA_79_0, FA_79_1, FA_93_0, FA_93_1, FA_93_2, FA_102_2, FA_123_0, FA_123_1, FA_123_2, FA_123_3, FA_123_4, FA_131_0, FA_131_1, FA_131_2, LEN_35, LEN_45, LEN_49, LEN_53, LEN_54, LEN_57, LEN_86, LEN_88, LEN_147, xIf_dec]
      refine ⟨fun hshort => ?_, fun hlong => ?_⟩
      · refine bad (.flt opRG 0 (.no 2)) 2 w6 hk06 hB6 ?_ rfl
        unfold rpGet
        rw [hgg]
        simp only
        rw [if_pos (List.any_eq_true.2 ⟨s, by rw [← hs]; exact List.getElem_mem hlt', by simp; omega⟩)]
      · have hbd := blk_drew hb6
        obtain ⟨M0, M1, M2, M3, M4, M5, M6⟩ := ldR hbd
        simp only [xP_nil, xP_pick, xP_func, xP_not, xP_add, xP_sub, xP_mul, xP_lss, xP_leq, xP_gtr, xP_geq, xP_max2, xP_min2, xR_eql, xR_neq, Nat.zero_add, Nat.add_zero, Nat.reduceAdd, List.getD_cons_zero, List.getD_cons_succ, xIf_true, xIf_false, FA_25_0, FA_39_0, FA_41_0, FA_41_1, FA_41_2, FA_56_0, FA_56_1, FA_56_2, FA_56_3, FA_56_4, FA_56_5, FA_72_0, FA_79_0, FA_79_1, FA_93_0, FA_93_1, FA_93_2, FA_102_2, FA_123_0, FA_123_1, FA_123_2, FA_123_3, FA_123_4, FA_131_0, FA_131_1, FA_131_2, LEN_35, LEN_45, LEN_49, LEN_53, LEN_54, LEN_57, LEN_86, LEN_88, LEN_147, M5]
        refine (xP_toS STR (by omega) (by omega)).2 ?_
        refine (xP_fromS STR (by omega) (by omega)).2 ?_
        refine xE_toBytes STR UB UU8' fun w7 c7 hs7 hk7 => ?_
        refine (still1 ONE_54 ((hbd.kept hk7 (by simp)).cell (o := 5))).2 ?_
        have hcut : s.extract 0 (8 : Int).toNat = s.extract 0 8 := rfl
        have h8 : (s.extract 0 8).size = 8 := by rw [ByteArray.size_extract]; omega
        have hb8 : bytesOf (s.extract 0 8) = (bytesOf s).take 8 := by
          unfold bytesOf
          simp [ByteArray.data_extract]
        rw [hcut] at hs7 ⊢
        refine xE_call CF_46 (dbig_ok hs7 (by rw [bytesOf_len, h8]; omega)) ?_
        rintro _ _ ⟨rfl, rfl⟩
        refine (still1 ONE_54 ((hbd.kept hk7 (by simp)).cell (o := 5))).2 ?_
        refine (xP_conv INT_97 INT_3).2 ?_
        rw [hb8]
        have hbt : (IntKind.i64.wrap (leNat ((bytesOf s).take 8) : Nat), s.extract (8 : Int).toNat s.size) = batchT s := rfl
        refine (xP_build (cells := (encT (batchT s)).toArray) (by kernel_rfl)).2 ?_
        refine xE_buildSlice EL_54 [vT (batchT s)] rfl rfl (by simp [vT, encT, Value.cells]) (by omega) (by omega) fun w8 hb8' hk8 hz8 => ?_
        have hk68 : Kept [] w6 w8 := ((kept_drew [] w6).then hk7 (by simp)).then hk8 (by simp)
        refine (still1 ONE_54 ((hb6.kept hk68 (by simp)).cell (o := 5))).2 ?_
        have hat : At w8 w7.heap.size 0 ([batchT s].flatMap encT) := by
          have := hb8'.at
          simpa [vT, Value.cells] using this
        refine xE_append (m := 1) EL_54 (ho6.kept hk68 (by simp)) hat (by rw [flat_len encT_len]; rfl) (by intro u hu; simp at hu; exact encT_one _ u hu) (by omega) (by unfold maxLen; omega) (by omega) fun o9 w9 F9 ho9 hk9 hF9 hone9 => ?_
        have hz68 := hk68.size
        have hnR : R ∉ F6 := fun hm => by have := hF6 _ hm; omega
        have hb9 := (hb6.kept hk68 (by simp)).kept hk9 hnR
        try simp only [xP_nil, xP_pick, xP_func, xP_not, xP_add, xP_sub, xP_mul, xP_lss, xP_leq, xP_gtr, xP_geq, xP_max2, xP_min2, xR_eql, xR_neq, Nat.zero_add, Nat.add_zero, Nat.reduceAdd, List.getD_cons_zero, List.getD_cons_succ, xIf_true, xIf_false, FA_25_0, FA_39_0, FA_41_0, FA_41_1, FA_41_2, FA_56_0, FA_56_1, FA_56_2, FA_56_3, FA_56_4, FA_56_5, FA_72_0, FA_79_0, FA_79_1, FA_93_0, FA_93_1, FA_93_2, FA_102_2, FA_123_0, FA_123_1, FA_123_2, FA_123_3, FA_123_4, FA_131_0, FA_131_1, FA_131_2, LEN_35, LEN_45, LEN_49, LEN_53, LEN_54, LEN_57, LEN_86, LEN_88, LEN_147]
        refine xE_store1 SZ_54 hb9 (by simp [encR]) hone9 fun w10 hb10 hk10 hz10 => ?_
        rw [wrap64 (by omega) (by omega)]
        have hF9' : ∀ q ∈ F9, R + 1 ≤ q := fun q hq => (hF9 q hq).elim (hF6 q) (fun h => by omega)
        refine ⟨⟨i + 1, o9, F9, rfl, hlt', ?_, ?_, hF9', hone9, by simpa [encR] using hb10, ((hk56.then hk68 (by simp)).then hk9 (fun q hq => .inr (by have := hF6 q hq; omega))).then hk10 (by simp)⟩, by omega⟩
        · intro t ht
          rw [List.take_succ_eq_append_getElem hlt', hs] at ht
          rcases List.mem_append.1 ht with ht | ht
          · exact hall t ht
          · simp at ht; subst ht; omega
        · rw [List.take_succ_eq_append_getElem hlt', hs, List.map_append, List.flatMap_append]
          exact ho9.kept hk10 (fun q hq hm => by have := hF9' q hq; simp at hm; omega)
    · obtain rfl : i = g.l.length := by omega
      rw [List.take_length] at hall ho6
      obtain ⟨M0, M1, M2, M3, M4, M5, M6⟩ := ldR hb6
      simp only [M6]
      have hany : (g.l.any fun s => decide (s.size < 8)) = false := by
        rw [List.any_eq_false]
        intro s hs
        have := hall s hs
        simp; omega
      have hbo : SlT w6 encT o6 (g.l.map batchT) := by
        have := ho6
        rw [show g.l.length = (g.l.map batchT).length by simp] at this
        exact this.slT encT_len (by omega)
      have hrp : IsRp w6 ⟨xa.n, xb.n, xc.n, xd.n, xe.lv, o6⟩ ⟨a.n, c.n, d.n, e.n, f.l, g.l.map batchT⟩ := ⟨va.1, vb.1, vc.1, vd.1, hnames.kept0 hk36, hbo⟩
      have hok : okRp ⟨a.n, c.n, d.n, e.n, f.l, g.l.map batchT⟩ := ⟨by show f.l.length ≤ _; omega, by simp; omega, fun p hp => by
        obtain ⟨s, hs, rfl⟩ := List.mem_map.1 hp
        have := hzg s hs
        show (s.extract 8 s.size).size ≤ _
        rw [ByteArray.size_extract]; omega⟩
      have hget : rpGet b = if (⟨a.n, c.n, d.n, e.n, f.l, g.l.map batchT⟩ : Rp).right then .ok ⟨a.n, c.n, d.n, e.n, f.l, g.l.map batchT⟩ else .error (.flt opRG 0 (.no 2)) := by
        unfold rpGet
        rw [hgg]
        simp only
        rw [hany]
        simp only [Bool.false_eq_true, if_false]
      refine xE_call CF_23 (drright_ok hrp hok) ?_
      rintro _ w7 ⟨rfl, hk7⟩
      have hk07 := hk06.then hk7 (by simp)
      simp only [xP_nil, xP_pick, xP_func, xP_not, xP_add, xP_sub, xP_mul, xP_lss, xP_leq, xP_gtr, xP_geq, xP_max2, xP_min2, xR_eql, xR_neq, Nat.zero_add, Nat.add_zero, Nat.reduceAdd, List.getD_cons_zero, List.getD_cons_succ, xIf_true, xIf_false, FA_25_0, FA_39_0, FA_41_0, FA_41_1, FA_41_2, FA_56_0, FA_56_1, FA_56_2, FA_56_3, FA_56_4, FA_56_5, FA_72_0, FA_79_0, FA_79_1, FA_93_0, FA_93_1, FA_93_2, FA_102_2, FA_123_0, FA_123_1, FA_123_2, FA_123_3, FA_123_4, FA_131_0, FA_131_1, FA_131_2, LEN_35, LEN_45, LEN_49, LEN_53, LEN_54, LEN_57, LEN_86, LEN_88, LEN_147, xIf_bool]
      refine ⟨fun hno => ?_, fun hyes => ?_⟩
      · simp only [Bool.not_eq_true'] at hno
        exact bad (.flt opRG 0 (.no 2)) 2 w7 hk07 (hB6.kept hk7 (by simp)) (by rw [hget, hno]; rfl) rfl
      · simp only [Bool.not_eq_false'] at hyes
        obtain ⟨N0, N1, N2, N3, N4, N5, N6⟩ := ldR (hb6.kept hk7 (by simp))
        simp only [N6]
        refine xE_storeN (l1 := []) (l2 := encR rawRp0) (l3 := []) SZ_56 (hB6.kept hk7 (by simp)) rfl rfl rfl hrp.one fun w8 hb8 hk8 hz8 => ?_
        obtain ⟨Q0, Q1, Q2, Q3, Q4, Q5, Q6⟩ := ldR (x := ⟨xa.n, xb.n, xc.n, xd.n, xe.lv, o6⟩) (by simpa [Value.cells, vR] using hb8)
        simp only [Q6]
        refine ⟨hk07.then hk8 (by simp; omega), ?_⟩
        rw [hget, hyes]
        simp only [if_true]
        refine ⟨_, rfl, ?_⟩
        refine ⟨va.1, vb.1, vc.1, vd.1, (hnames.kept0 (hk36.then hk7 (by simp))).kept hk8 (fun bb oo n cc he hm => ?_), (hbo.kept0 hk7).kept hk8 (fun bb oo n cc he hm => ?_)⟩
        · have := hfe bb oo n cc he
          simp at hm
          omega
        · have := hF6 _ (ho6.addr bb oo n cc he)
          simp at hm
          omega
end Go.Proofs.YtbfaglbfpmnnmaaDoor
