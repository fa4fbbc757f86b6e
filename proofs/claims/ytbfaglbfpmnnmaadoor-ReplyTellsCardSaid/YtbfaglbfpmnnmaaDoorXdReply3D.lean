import Derived.Test.YtbfaglbfpmnnmaaDoorXdReply2
import Derived.Test.YtbfaglbfpmnnmaaDoorXdFault2
namespace Go.Proofs.YtbfaglbfpmnnmaaDoor
set_option linter.unusedSimpArgs false
set_option linter.unusedVariables false
set_option maxRecDepth 100000
attribute [local irreducible] Go.X.xE
open Go Go.X

def rawRp0 : RawRp := ⟨0, 0, 0, 0, .slice none 0 0, .slice none 0 0⟩
def RGPost (w : World) (b : List UInt8) (r : Value) (w' : World) : Prop := Kept [] w w' ∧ match rpGet b with
  | .ok y => ∃ x, r = .tuple #[vR x, .nilIface] ∧ IsRp w' x y
  | .error e => r = .tuple #[vR rawRp0, erV e]
theorem build0 : Tryd.prog.built 56 (#[] : Array (Nat × Value)).toList = some (encR rawRp0).toArray := by kernel_rfl
theorem buildR {a b c d : Int} {p : Option Addr} {n m : Nat} : Tryd.prog.built 56 #[(0, Value.int .i64 a), (1, .int .i64 b), (2, .int .i64 c), (3, .int .i64 d), (4, .slice p n m)].toList = some (encR ⟨a, b, c, d, .slice p n m, .slice none 0 0⟩).toArray := by kernel_rfl
theorem row6 {w : World} {raws : List RawV} {a b c d e f : GVl} (h : IsRow w raws [a, b, c, d, e, f]) : ∃ xa xb xc xd xe xf, raws = [xa, xb, xc, xd, xe, xf] ∧ IsV w xa a ∧ IsV w xb b ∧ IsV w xc c ∧ IsV w xd d ∧ IsV w xe e ∧ IsV w xf f := by
  obtain ⟨hl, hv⟩ := h
  rcases raws with _ | ⟨xa, _ | ⟨xb, _ | ⟨xc, _ | ⟨xd, _ | ⟨xe, _ | ⟨xf, _ | ⟨y, z⟩⟩⟩⟩⟩⟩⟩ <;> simp at hl
  exact ⟨xa, xb, xc, xd, xe, xf, rfl, hv 0 _ _ rfl rfl, hv 1 _ _ rfl rfl, hv 2 _ _ rfl rfl, hv 3 _ _ rfl rfl, hv 4 _ _ rfl rfl, hv 5 _ _ rfl rfl⟩

theorem rGet_ok {b : List UInt8} {u : Value} {w : World} (hv : SlT w encB u b) (hbl : b.length ≤ 4611686018427387904) : Gives Tryd.prog 27 #[u] w fun r w' => RGPost w b r w' := by
  refine C_reply_Get ?_
  unfold S_reply_Get
  refine xE_alloc Z_56 fun w1 hb1 hk1 hz1 => ?_
  have hb1' : Blk w1 w.heap.size 56 (encR rawRp0) := hb1
  generalize eB : w.heap.size = B at *
  refine xE_call CF_43 fields_ok ?_
  rintro fv w2 ⟨hfv, hk2⟩
  have hk02 : Kept [] w w2 := hk1.then hk2 (by simp)
  refine xE_call CF_42 (get_ok hfv rsmall (by simp [rpFields]) (hv.kept0 hk02) hbl) ?_
  rintro v12 w3 ⟨hk3, hg⟩
  have hk03 : Kept [] w w3 := hk02.then hk3 (by simp)
  have hb3 : Blk w3 B 56 (encR rawRp0) := (hb1'.kept hk2 (by simp)).kept hk3 (by simp)
  -- the way out with an error
  have bad : ∀ (e : Er) (w' : World), Kept [] w w' → Blk w' B 56 (encR rawRp0) → rpGet b = .error (.flt opRG 0 e) →
      xE Tryd.prog (sCall 32 #[(.string (ByteArray.mk #[114, 101, 112, 108, 121, 46, 71, 101, 116])), (.int .i64 0), erV e]) w' fun v19 w12 =>
      xE Tryd.prog (sStore 56 (.pointer (some ⟨B, 0, none⟩)) (.agg (encR rawRp0).toArray)) w12 fun _ w13 =>
      xR Tryd.prog (sLoad 56 (.pointer (some ⟨B, 0, none⟩))) w13 fun r14 => Ret (fun r w' => RGPost w b r w') (.returned (.tuple #[r14, v19])) w13 := by
    intro e w' hk' hb' he
    refine xE_call CF_32 wrapE_ok ?_
    rintro _ _ ⟨rfl, rfl⟩
    refine xE_storeN (l1 := []) (l2 := encR rawRp0) (l3 := []) SZ_56 hb' rfl rfl rfl (by intro u hu; simp [encR, rawRp0, Value.cells] at hu; rcases hu with rfl | rfl <;> rfl) fun w5 hb5 hk5 hz5 => ?_
    obtain ⟨L0, L1, L2, L3, L4, L5, L6⟩ := ldR (x := rawRp0) (by simpa [Value.cells] using hb5)
    simp only [L6]
    refine ⟨hk'.then hk5 (by simp; omega), ?_⟩
    rw [he]
    rfl
  cases hgg : gramGet rpFields b with
  | error q =>
    obtain ⟨i, k⟩ := q
    rw [hgg] at hg
    subst hg
    simp only [xP_ex0, xP_ex1]
    refine (xR_neqI IFE).2 ?_
    simp only [xP_nil, xP_pick, xP_func, xP_not, xP_add, xP_sub, xP_mul, xP_lss, xP_leq, xP_gtr, xP_geq, xP_max2, xP_min2, xR_eql, xR_neq, Nat.zero_add, Nat.add_zero, Nat.reduceAdd, List.getD_cons_zero, List.getD_cons_succ, xIf_true, xIf_false, FA_25_0, FA_39_0, FA_41_0, FA_41_1, FA_41_2, FA_56_0, FA_56_1, FA_56_2, FA_56_3, FA_56_4, FA_56_5, FA_72_0, FA_79_0, FA_79_1, FA_93_0, FA_93_1, FA_93_2, FA_102_2, FA_123_0, FA_123_1, FA_123_2, FA_123_3, FA_123_4, FA_131_0, FA_131_1, FA_131_2, LEN_35, LEN_45, LEN_49, LEN_53, LEN_54, LEN_57, LEN_86, LEN_88, LEN_147]
    refine (xP_build build0).2 ?_
    exact bad (.flt opG i (.no k)) w3 hk03 hb3 (by unfold rpGet; rw [hgg])
  | ok vs =>
    rw [hgg] at hg
    obtain ⟨o, raws, rfl, ho, hrow, hof, hlf, hlo⟩ := hg
    obtain ⟨a, b', c, d, e, f, rfl⟩ : ∃ a b c d e f, vs = [a, b, c, d, e, f] := by
      have hl := gramGet_len hgg
      rcases vs with _ | ⟨xa, _ | ⟨xb, _ | ⟨xc, _ | ⟨xd, _ | ⟨xe, _ | ⟨xf, _ | ⟨y, z⟩⟩⟩⟩⟩⟩⟩ <;> simp [rpFields] at hl
      exact ⟨_, _, _, _, _, _, rfl⟩
    have hsm := getRest_small (gramGet_ok hgg).1
    have hsz := getRest_sz (gramGet_ok hgg).1
    obtain ⟨xa, xb, xc, xd, xe, xf, rfl, va, vb, vc, vd, ve, vf⟩ := row6 hrow
    simp only [xP_ex0, xP_ex1]
    refine (xR_neqN IFE).2 ?_
    simp only [xP_nil, xP_pick, xP_func, xP_not, xP_add, xP_sub, xP_mul, xP_lss, xP_leq, xP_gtr, xP_geq, xP_max2, xP_min2, xR_eql, xR_neq, Nat.zero_add, Nat.add_zero, Nat.reduceAdd, List.getD_cons_zero, List.getD_cons_succ, xIf_true, xIf_false, FA_25_0, FA_39_0, FA_41_0, FA_41_1, FA_41_2, FA_56_0, FA_56_1, FA_56_2, FA_56_3, FA_56_4, FA_56_5, FA_72_0, FA_79_0, FA_79_1, FA_93_0, FA_93_1, FA_93_2, FA_102_2, FA_123_0, FA_123_1, FA_123_2, FA_123_3, FA_123_4, FA_131_0, FA_131_1, FA_131_2, LEN_35, LEN_45, LEN_49, LEN_53, LEN_54, LEN_57, LEN_86, LEN_88, LEN_147]
    obtain ⟨oa, oc, rfl, hoc, hor⟩ := ho
    obtain ⟨bb, oo, rfl, hat⟩ := hor.resolve_left (by simp)
    have cell : ∀ {w' : World}, Kept [] w3 w' → At w' bb oo ([xa, xb, xc, xd, xe, xf].flatMap encV) := fun hk => hat.kept hk (by simp)
    have hkd : Kept [] w3 w3.drew := keptd
    refine (xP_IA SL_88 SZ_93 (by omega) (by simp)).2 ?_
    simp only [xP_nil, xP_pick, xP_func, xP_not, xP_add, xP_sub, xP_mul, xP_lss, xP_leq, xP_gtr, xP_geq, xP_max2, xP_min2, xR_eql, xR_neq, Nat.zero_add, Nat.add_zero, Nat.reduceAdd, List.getD_cons_zero, List.getD_cons_succ, xIf_true, xIf_false, FA_25_0, FA_39_0, FA_41_0, FA_41_1, FA_41_2, FA_56_0, FA_56_1, FA_56_2, FA_56_3, FA_56_4, FA_56_5, FA_72_0, FA_79_0, FA_79_1, FA_93_0, FA_93_1, FA_93_2, FA_102_2, FA_123_0, FA_123_1, FA_123_2, FA_123_3, FA_123_4, FA_131_0, FA_131_1, FA_131_2, LEN_35, LEN_45, LEN_49, LEN_53, LEN_54, LEN_57, LEN_86, LEN_88, LEN_147, Int.reduceToNat, Nat.reduceMul, Nat.zero_mul]
    refine (ld1 ONE_3 (at_cell (cell hkd) (j := 0) rfl)).2 ?_
    refine (xP_IA SL_88 SZ_93 (by omega) (by simp)).2 ?_
    simp only [xP_nil, xP_pick, xP_func, xP_not, xP_add, xP_sub, xP_mul, xP_lss, xP_leq, xP_gtr, xP_geq, xP_max2, xP_min2, xR_eql, xR_neq, Nat.zero_add, Nat.add_zero, Nat.reduceAdd, List.getD_cons_zero, List.getD_cons_succ, xIf_true, xIf_false, FA_25_0, FA_39_0, FA_41_0, FA_41_1, FA_41_2, FA_56_0, FA_56_1, FA_56_2, FA_56_3, FA_56_4, FA_56_5, FA_72_0, FA_79_0, FA_79_1, FA_93_0, FA_93_1, FA_93_2, FA_102_2, FA_123_0, FA_123_1, FA_123_2, FA_123_3, FA_123_4, FA_131_0, FA_131_1, FA_131_2, LEN_35, LEN_45, LEN_49, LEN_53, LEN_54, LEN_57, LEN_86, LEN_88, LEN_147, Int.reduceToNat, Nat.reduceMul]
    refine (ld1 ONE_3 (at_cell (cell hkd) (j := 3) rfl)).2 ?_
    refine (xP_IA SL_88 SZ_93 (by omega) (by simp)).2 ?_
    simp only [xP_nil, xP_pick, xP_func, xP_not, xP_add, xP_sub, xP_mul, xP_lss, xP_leq, xP_gtr, xP_geq, xP_max2, xP_min2, xR_eql, xR_neq, Nat.zero_add, Nat.add_zero, Nat.reduceAdd, List.getD_cons_zero, List.getD_cons_succ, xIf_true, xIf_false, FA_25_0, FA_39_0, FA_41_0, FA_41_1, FA_41_2, FA_56_0, FA_56_1, FA_56_2, FA_56_3, FA_56_4, FA_56_5, FA_72_0, FA_79_0, FA_79_1, FA_93_0, FA_93_1, FA_93_2, FA_102_2, FA_123_0, FA_123_1, FA_123_2, FA_123_3, FA_123_4, FA_131_0, FA_131_1, FA_131_2, LEN_35, LEN_45, LEN_49, LEN_53, LEN_54, LEN_57, LEN_86, LEN_88, LEN_147, Int.reduceToNat, Nat.reduceMul]
    refine (ld1 ONE_3 (at_cell (cell hkd) (j := 6) rfl)).2 ?_
    refine (xP_IA SL_88 SZ_93 (by omega) (by simp)).2 ?_
    simp only [xP_nil, xP_pick, xP_func, xP_not, xP_add, xP_sub, xP_mul, xP_lss, xP_leq, xP_gtr, xP_geq, xP_max2, xP_min2, xR_eql, xR_neq, Nat.zero_add, Nat.add_zero, Nat.reduceAdd, List.getD_cons_zero, List.getD_cons_succ, xIf_true, xIf_false, FA_25_0, FA_39_0, FA_41_0, FA_41_1, FA_41_2, FA_56_0, FA_56_1, FA_56_2, FA_56_3, FA_56_4, FA_56_5, FA_72_0, FA_79_0, FA_79_1, FA_93_0, FA_93_1, FA_93_2, FA_102_2, FA_123_0, FA_123_1, FA_123_2, FA_123_3, FA_123_4, FA_131_0, FA_131_1, FA_131_2, LEN_35, LEN_45, LEN_49, LEN_53, LEN_54, LEN_57, LEN_86, LEN_88, LEN_147, Int.reduceToNat, Nat.reduceMul]
    refine (ld1 ONE_3 (at_cell (cell hkd) (j := 9) rfl)).2 ?_
    refine (xP_IA SL_88 SZ_93 (by omega) (by simp)).2 ?_
    simp only [xP_nil, xP_pick, xP_func, xP_not, xP_add, xP_sub, xP_mul, xP_lss, xP_leq, xP_gtr, xP_geq, xP_max2, xP_min2, xR_eql, xR_neq, Nat.zero_add, Nat.add_zero, Nat.reduceAdd, List.getD_cons_zero, List.getD_cons_succ, xIf_true, xIf_false, FA_25_0, FA_39_0, FA_41_0, FA_41_1, FA_41_2, FA_56_0, FA_56_1, FA_56_2, FA_56_3, FA_56_4, FA_56_5, FA_72_0, FA_79_0, FA_79_1, FA_93_0, FA_93_1, FA_93_2, FA_102_2, FA_123_0, FA_123_1, FA_123_2, FA_123_3, FA_123_4, FA_131_0, FA_131_1, FA_131_2, LEN_35, LEN_45, LEN_49, LEN_53, LEN_54, LEN_57, LEN_86, LEN_88, LEN_147, Int.reduceToNat, Nat.reduceMul]
    refine (ld1 ONE_53 (at_cell (cell hkd) (j := 14) rfl)).2 ?_
    obtain ⟨na, nc, hnv, hnc, hnr⟩ := ve.2.2
    obtain ⟨R0, eR0⟩ : ∃ R0 : RawRp, R0 = ⟨xa.n, xb.n, xc.n, xd.n, xe.lv, .slice none 0 0⟩ := ⟨_, rfl⟩
    refine (xP_build (cells := (encR R0).toArray) (by rw [eR0, hnv]; exact buildR)).2 ?_
    refine xE_alloc Z_56 fun w4 hb4 hk4 hz4 => ?_
    have hk34 : Kept [] w3 w4 := hkd.then hk4 (by simp)
    refine (still1 ONE_53 (at_cell (cell hk34) (j := 14) rfl)).2 ?_
    refine (still1 ONE_3 (at_cell (cell hk34) (j := 9) rfl)).2 ?_
    refine (still1 ONE_3 (at_cell (cell hk34) (j := 6) rfl)).2 ?_
    refine (still1 ONE_3 (at_cell (cell hk34) (j := 3) rfl)).2 ?_
    refine (still1 ONE_3 (at_cell (cell hk34) (j := 0) rfl)).2 ?_
    have hone0 : ∀ u ∈ encR R0, u.oneCell' = true := by
      rw [eR0]; intro u hu; simp [encR] at hu; rcases hu with rfl | rfl | rfl | rfl | rfl | rfl <;> first | rfl | (rw [hnv]; rfl)
    refine xE_storeN (l1 := []) (l2 := encR rawRp0) (l3 := []) SZ_56 hb4 rfl rfl rfl hone0 fun w5 hb5 hk5 hz5 => ?_
    have hb5' : Blk w5 w3.heap.size 56 (encR R0) := by simpa [Value.cells] using hb5
    have hk35 : Kept [] w3 w5 := (hk34.then hk5 (by intro k hk; simp at hk; subst hk; exact .inr (Nat.le_refl _)))
    have hk05 : Kept [] w w5 := hk03.then hk35 (by simp)
    have hB3 : B < w3.heap.size := hb3.lt
    have hb25 : Blk w5 B 56 (encR rawRp0) := hb3.kept hk35 (by simp)
    have hz35 : w5.heap.size = w3.heap.size + 1 := by rw [hz5, hz4]; rfl
    rw [show w3.drew.heap.size = w3.heap.size from rfl]
    generalize eC : w3.heap.size = C at *
    refine (xP_IA SL_88 SZ_93 (by omega) (by simp)).2 ?_
    simp only [xP_nil, xP_pick, xP_func, xP_not, xP_add, xP_sub, xP_mul, xP_lss, xP_leq, xP_gtr, xP_geq, xP_max2, xP_min2, xR_eql, xR_neq, Nat.zero_add, Nat.add_zero, Nat.reduceAdd, List.getD_cons_zero, List.getD_cons_succ, xIf_true, xIf_false, FA_25_0, FA_39_0, FA_41_0, FA_41_1, FA_41_2, FA_56_0, FA_56_1, FA_56_2, FA_56_3, FA_56_4, FA_56_5, FA_72_0, FA_79_0, FA_79_1, FA_93_0, FA_93_1, FA_93_2, FA_102_2, FA_123_0, FA_123_1, FA_123_2, FA_123_3, FA_123_4, FA_131_0, FA_131_1, FA_131_2, LEN_35, LEN_45, LEN_49, LEN_53, LEN_54, LEN_57, LEN_86, LEN_88, LEN_147, Int.reduceToNat, Nat.reduceMul]
    refine (ld1 ONE_53 (at_cell (cell hk35) (j := 17) rfl)).2 ?_
    obtain ⟨ta, tc, htv, htc, htr⟩ := vf.2.2
    have htx : SlT w5 encS xf.lv f.l := vf.2.2.kept0 hk35
    have hfl := hsm f (by simp)
    have hfs := hsz f (by simp)
    have hel := hsm e (by simp)
    rw [htv] at htx ⊢
    simp only [xP_nil, xP_pick, xP_func, xP_not, xP_add, xP_sub, xP_mul, xP_lss, xP_leq, xP_gtr, xP_geq, xP_max2, xP_min2, xR_eql, xR_neq, Nat.zero_add, Nat.add_zero, Nat.reduceAdd, List.getD_cons_zero, List.getD_cons_succ, xIf_true, xIf_false, FA_25_0, FA_39_0, FA_41_0, FA_41_1, FA_41_2, FA_56_0, FA_56_1, FA_56_2, FA_56_3, FA_56_4, FA_56_5, FA_72_0, FA_79_0, FA_79_1, FA_93_0, FA_93_1, FA_93_2, FA_102_2, FA_123_0, FA_123_1, FA_123_2, FA_123_3, FA_123_4, FA_131_0, FA_131_1, FA_131_2, LEN_35, LEN_45, LEN_49, LEN_53, LEN_54, LEN_57, LEN_86, LEN_88, LEN_147]
    have hget : rpGet b = if f.l.any (fun s => decide (s.size < 8)) then .error (.flt opRG 0 (.no 2)) else (let r : Rp := ⟨a.n, b'.n, c.n, d.n, e.l, f.l.map batchT⟩; if r.right then .ok r else .error (.flt opRG 0 (.no 2))) := by
      unfold rpGet; rw [hgg]
    refine xLoop_of (fun ls w' => ∃ (i : Nat) (lv : Value) (F : List Nat), ls = [.int .i64 i] ∧ i ≤ f.l.length ∧ (∀ s ∈ f.l.take i, 8 ≤ s.size) ∧ Own w' 79 2 lv i (((f.l.take i).map batchT).flatMap encT) F ∧ (∀ g ∈ F, C + 1 ≤ g) ∧ lv.oneCell' = true ∧ Blk w' C 56 (encR { R0 with bv := lv }) ∧
        Blk w' B 56 (encR rawRp0) ∧ Kept [C] w5 w' ∧ Kept [] w w' ∧ C + 1 ≤ w'.heap.size)
      (fun ls _ => match ls with | [.int _ i] => f.l.length - i.toNat | _ => 0) ⟨0, .slice none 0 0, [], rfl, by omega, by simp, own_nil _ _ _, by simp, rfl, by rw [eR0] at hb5' ⊢; exact hb5', hb25, Kept.refl _ _, hk05, by omega⟩ ?_
    rintro _ _ w6 ⟨i, lv, F, rfl, hi, h8, ho, hF, hone, hb6, hb26, hk56, hk06, hz6⟩
    simp only [xP_nil, xP_pick, xP_func, xP_not, xP_add, xP_sub, xP_mul, xP_lss, xP_leq, xP_gtr, xP_geq, xP_max2, xP_min2, xR_eql, xR_neq, Nat.zero_add, Nat.add_zero, Nat.reduceAdd, List.getD_cons_zero, List.getD_cons_succ, xIf_true, xIf_false, FA_25_0, FA_39_0, FA_41_0, FA_41_1, FA_41_2, FA_56_0, FA_56_1, FA_56_2, FA_56_3, FA_56_4, FA_56_5, FA_72_0, FA_79_0, FA_79_1, FA_93_0, FA_93_1, FA_93_2, FA_102_2, FA_123_0, FA_123_1, FA_123_2, FA_123_3, FA_123_4, FA_131_0, FA_131_1, FA_131_2, LEN_35, LEN_45, LEN_49, LEN_53, LEN_54, LEN_57, LEN_86, LEN_88, LEN_147, xIf_dec]
    have h3tx : SlT w3 encS (.slice ta f.l.length tc) f.l := by rw [← htv]; exact vf.2.2
    have htx6 : SlT w6 encS (.slice ta f.l.length tc) f.l := SlT.keptNew h3tx htx hk56 (by simp; omega)
    refine ⟨fun hlt => ?_, fun hge => ?_⟩
    · have hlt' : i < f.l.length := by omega
      refine (rowS.get htx6 (Kept.refl _ _) hlt').2 ?_
      have hsi := hfs _ (List.getElem_mem hlt')
      simp only [xP_lenS STR, xP_nil, xP_pick, xP_func, xP_not, xP_add, xP_sub, xP_mul, xP_lss, xP_leq, xP_gtr, xP_geq, xP_max2, xP_min2, xR_eql, xR_neq, Nat.zero_add, Nat.add_zero, Nat.reduceAdd, List.getD_cons_zero, List.getD_cons_succ, xIf_true, xIf_false, FA_25_0, FA_39_0, FA_41_0, FA_41_1, FA_41_2, FA_56_0, FA_56_1, FA_56_2, FA_56_3, FA_56_4, FA_56_5, FA_72_0, FA_79_0, FA_79_1, FA_93_0, FA_93_1, FA_93_2, FA_102_2, FA_123_0, FA_123_1, FA_123_2, FA_123_3, FA_123_4, FA_131_0, FA_131_1, FA_131_2, LEN_35, LEN_45, LEN_49, LEN_53, LEN_54, LEN_57, LEN_86, LEN_88, LEN_147, xIf_dec]
      refine ⟨fun hshort => ?_, fun hlong => ?_⟩
      · refine (xP_build build0).2 ?_
        simp only [xP_iface CEN]
        refine bad (.no 2) w6 hk06 hb26 ?_
        rw [hget, if_pos]
        exact List.any_eq_true.2 ⟨_, List.getElem_mem hlt', decide_eq_true (show (f.l[i]).size < 8 by omega)⟩
      · have h8i : 8 ≤ (f.l[i]).size := by omega
        have hd : Kept [] w6 w6.drew := keptd
        obtain ⟨N0, N1, N2, N3, N4, N5, N6⟩ := ldR (hb6.kept hd (by simp))
        simp only [N5]
        refine xE_call CF_44 (batch8_ok h8i (by omega)) ?_
        rintro _ w7 ⟨rfl, hk7⟩
        have hk67 : Kept [] w6 w7 := hd.then hk7 (by simp)
        refine (still1 ONE_54 (v := lv) ((hb6.kept hk67 (by simp)).cell (o := 5))).2 ?_
        refine xE_buildSlice EL_54 [vT (batchT f.l[i])] rfl rfl (by simp [vT, encT, Value.cells]) (by omega) (by omega) fun w8 hb8 hk8 hz8 => ?_
        have hk68 : Kept [] w6 w8 := hk67.then hk8 (by simp)
        have hz68 := hk68.size
        refine (still1 ONE_54 (v := lv) ((hb6.kept hk68 (by simp)).cell (o := 5))).2 ?_
        have hat8 : At w8 w7.heap.size 0 ([batchT f.l[i]].flatMap encT) := by
          have := hb8.at
          simpa [vT, Value.cells] using this
        refine xE_append (m := 1) EL_54 (ho.kept hk68 (by simp)) hat8 rfl (by intro u hu; simp at hu; exact encT_one _ u hu) (by omega) (by unfold maxLen; omega) (by omega) fun lv' w9 F' ho' hk9 hF' hone' => ?_
        have hz9 := hk9.size
        have hF2 : ∀ g ∈ F', C + 1 ≤ g := fun g hg => (hF' g hg).elim (hF g) (fun h => by omega)
        have hb9 : Blk w9 C 56 (encR { R0 with bv := lv }) := (hb6.kept hk68 (by simp)).kept hk9 (fun hm => by have := hF _ hm; omega)
        refine xE_store1 SZ_54 hb9 (by simp [encR]) hone' fun w10 hb10 hk10 hz10 => ?_
        rw [wrap64 (by omega) (by omega)]
        have hF59 : ∀ g ∈ F, g ∈ [C] ∨ w5.heap.size ≤ g := fun g hg => .inr (by have := hF g hg; omega)
        refine ⟨⟨i + 1, lv', F', rfl, hlt', ?_, ?_, hF2, hone', by simpa [encR] using hb10, ((hb26.kept hk68 (by simp)).kept hk9 (fun hm => by have := hF _ hm; omega)).kept hk10 (by simp; omega), ((hk56.then hk68 (by simp)).then hk9 hF59).then hk10 (by simp), ((hk06.then hk68 (by simp)).then hk9 (fun g hg => .inr (by have := hF g hg; have := hk05.size; omega))).then hk10 (by intro k hk; simp at hk; subst hk; exact .inr (by have := hk03.size; omega)), by omega⟩, by omega⟩
        · intro s hs
          rw [List.take_succ_eq_append_getElem hlt'] at hs
          rcases List.mem_append.1 hs with hs | hs
          · exact h8 s hs
          · simp at hs; subst hs; exact h8i
        · rw [List.take_succ_eq_append_getElem hlt', List.map_append, List.flatMap_append]
          exact ho'.kept hk10 (fun g hg hm => by have := hF2 g hg; simp at hm; omega)
    · obtain rfl : i = f.l.length := by omega
      rw [List.take_length] at ho h8
      have hno : (f.l.any fun s => decide (s.size < 8)) = false := by
        rw [List.any_eq_false]
        intro s hs
        have := h8 s hs
        simp; omega
      rw [hno, if_neg (by simp)] at hget
      obtain ⟨y, ey⟩ : ∃ y : Rp, y = ⟨a.n, b'.n, c.n, d.n, e.l, f.l.map batchT⟩ := ⟨_, rfl⟩
      have hget' : rpGet b = if y.right then .ok y else .error (.flt opRG 0 (.no 2)) := by rw [hget, ey]
      have hbl' : SlT w6 encT lv (f.l.map batchT) := by
        rw [show f.l.length = (f.l.map batchT).length by simp] at ho
        exact ho.slT encT_len (by omega)
      have hnl : SlT w6 encS xe.lv e.l := SlT.keptNew ve.2.2 (ve.2.2.kept0 hk35) hk56 (by simp; omega)
      have his : IsRp w6 { R0 with bv := lv } y := by
        subst ey; subst eR0
        exact ⟨va.1, vb.1, vc.1, vd.1, hnl, hbl'⟩
      have hok : okRp y := by
        subst ey
        refine ⟨by show e.l.length ≤ _; omega, by show (f.l.map batchT).length ≤ _; rw [List.length_map]; omega, fun p hp => ?_⟩
        obtain ⟨s, hs, rfl⟩ := List.mem_map.1 hp
        have := hfs s hs
        show (s.extract 8 s.size).size ≤ _
        rw [ByteArray.size_extract]
        omega
      obtain ⟨N0, N1, N2, N3, N4, N5, N6⟩ := ldR hb6
      simp only [N6]
      refine xE_call CF_22 (rright_ok his hok) ?_
      rintro _ w7 ⟨rfl, hk7⟩
      have hk07 := hk06.then hk7 (by simp)
      simp only [xP_nil, xP_pick, xP_func, xP_not, xP_add, xP_sub, xP_mul, xP_lss, xP_leq, xP_gtr, xP_geq, xP_max2, xP_min2, xR_eql, xR_neq, Nat.zero_add, Nat.add_zero, Nat.reduceAdd, List.getD_cons_zero, List.getD_cons_succ, xIf_true, xIf_false, FA_25_0, FA_39_0, FA_41_0, FA_41_1, FA_41_2, FA_56_0, FA_56_1, FA_56_2, FA_56_3, FA_56_4, FA_56_5, FA_72_0, FA_79_0, FA_79_1, FA_93_0, FA_93_1, FA_93_2, FA_102_2, FA_123_0, FA_123_1, FA_123_2, FA_123_3, FA_123_4, FA_131_0, FA_131_1, FA_131_2, LEN_35, LEN_45, LEN_49, LEN_53, LEN_54, LEN_57, LEN_86, LEN_88, LEN_147, xIf_bool]
      refine ⟨fun hbad => ?_, fun hgood => ?_⟩
      · refine (xP_build build0).2 ?_
        simp only [xP_iface CEN]
        refine bad (.no 2) w7 hk07 (hb26.kept hk7 (by simp)) ?_
        rw [hget', if_neg (by simpa using hbad)]
      · obtain ⟨O0, O1, O2, O3, O4, O5, O6⟩ := ldR (hb6.kept hk7 (by simp))
        simp only [O6]
        refine xE_storeN (l1 := []) (l2 := encR rawRp0) (l3 := []) SZ_56 (hb26.kept hk7 (by simp)) rfl rfl rfl his.one fun w8 hb8 hk8 hz8 => ?_
        have hb8' : Blk w8 B 56 (encR { R0 with bv := lv }) := by simpa [vR, Value.cells] using hb8
        obtain ⟨Q0, Q1, Q2, Q3, Q4, Q5, Q6⟩ := ldR hb8'
        simp only [Q6]
        refine ⟨hk07.then hk8 (by intro k hk; simp at hk; subst hk; exact .inr (by omega)), ?_⟩
        rw [hget', if_pos (by simpa using hgood)]
        have his7 := his.kept0 hk7
        refine ⟨_, rfl, his7.corr, his7.err, his7.base, his7.next, ?_, ?_⟩
        · subst eR0
          subst ey
          refine his7.names.kept hk8 (fun bb o n cc he hm => ?_)
          simp at hm
          have h1 := hlf xe (by simp) bb o n cc he
          have h2 := hk2.size
          omega
        · exact his7.batches.kept hk8 (fun bb o n cc he hm => by
            simp at hm
            have := hF _ (ho.addr bb o n cc he)
            omega)
end Go.Proofs.YtbfaglbfpmnnmaaDoor
