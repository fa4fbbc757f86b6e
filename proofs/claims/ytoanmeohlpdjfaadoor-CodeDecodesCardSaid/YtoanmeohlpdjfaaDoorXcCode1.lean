import Derived.Test.YtoanmeohlpdjfaaDoorXcFaultPO
import Derived.Test.YtoanmeohlpdjfaaDoorXcBook1
import Derived.Test.YtoanmeohlpdjfaaDoorXRows
namespace Go.Proofs.YtoanmeohlpdjfaaDoor
set_option linter.unusedSimpArgs false
set_option linter.unusedVariables false
set_option maxRecDepth 100000
attribute [local irreducible] Go.X.xE
open Go Go.X Go.RowKit

/-! ## Package gf -/
theorem ARE : arrB Tryd.prog 83 5 510 := by unfold arrB; kernel_rfl
theorem ARL : arrB Tryd.prog 84 3 256 := by unfold arrB; kernel_rfl
def FieldIs (w : World) (f : Nat) : Prop := ∃ cur, Blk w f 86 cur ∧ (∀ j, j < 510 → cur[j]? = some (.int .u8 (gexp j : Nat))) ∧ ∀ v, 0 < v → v < 256 → cur[510 + v]? = some (.int .i64 (glog v : Nat))
theorem FieldIs.kept {w w' : World} {f : Nat} {M : List Nat} (h : FieldIs w f) (hk : Kept M w w') (hd : f ∉ M) : FieldIs w' f := by
  obtain ⟨cur, hb, h1, h2⟩ := h
  exact ⟨cur, hb.kept hk hd, h1, h2⟩
theorem FieldIs.lt {w : World} {f : Nat} (h : FieldIs w f) : f < w.heap.size := by
  obtain ⟨cur, hb, _⟩ := h
  exact hb.lt
theorem u8_zero {a : UInt8} : ((a.toNat : Int) = 0) ↔ a = 0 := by
  constructor
  · intro h
    exact UInt8.toNat_inj.1 (by show a.toNat = 0; omega)
  · intro h; subst h; rfl
theorem finv_ok {f : Nat} {a : UInt8} {w : World} (h : FieldIs w f) : Gives Tryd.prog 29 #[.pointer (some ⟨f, 0, none⟩), .int .u8 a.toNat] w fun u w' => u = .int .u8 (uinv a).toNat ∧ Kept [] w w' := by
  obtain ⟨cur, hb, he, hl⟩ := h
  refine C_gf_Field_Inv ?_
  unfold S_gf_Field_Inv
  simp only [xR_eql, xIf_dec, u8_zero]
  refine ⟨fun h0 => ?_, fun h0 => ?_⟩
  · subst h0
    rw [uinv_zero]
    exact ⟨rfl, Kept.refl _ _⟩
  · have hpos : 0 < a.toNat := Nat.pos_of_ne_zero fun e => h0 (UInt8.toNat_inj.1 e)
    have hg := glog_lt (u_lt a)
    try simp only [xP_nil, xP_pick, xP_func, xP_not, xP_add, xP_sub, xP_mul, xP_lss, xP_leq, xP_gtr, xP_geq, xP_max2, xP_min2, xR_eql, xR_neq, Nat.zero_add, Nat.add_zero, Nat.reduceAdd, List.getD_cons_zero, List.getD_cons_succ, xIf_true, xIf_false, FA_35_0, FA_35_1, FA_66_0, FA_66_1, FA_66_2, FA_82_0, FA_82_1, FA_82_2, FA_86_0, FA_86_1, LEN_29, LEN_32, LEN_47, LEN_48, LEN_79, LEN_116]
    refine (xP_IAarr ARL SZ_3 (u_lt a)).2 ?_
    rw [Nat.mul_one]
    refine (ld1 ONE_3 (v := .int .i64 (glog a.toNat : Nat)) (((blk_drew hb).cell (o := 510 + a.toNat)).trans (hl _ hpos (u_lt a)))).2 ?_
    try simp only [xP_nil, xP_pick, xP_func, xP_not, xP_add, xP_sub, xP_mul, xP_lss, xP_leq, xP_gtr, xP_geq, xP_max2, xP_min2, xR_eql, xR_neq, Nat.zero_add, Nat.add_zero, Nat.reduceAdd, List.getD_cons_zero, List.getD_cons_succ, xIf_true, xIf_false, FA_35_0, FA_35_1, FA_66_0, FA_66_1, FA_66_2, FA_82_0, FA_82_1, FA_82_2, FA_86_0, FA_86_1, LEN_29, LEN_32, LEN_47, LEN_48, LEN_79, LEN_116]
    rw [wrap64 (by omega) (by omega), show ((255 : Int) - (glog a.toNat : Nat)) = ((255 - glog a.toNat : Nat) : Int) by omega]
    refine (xP_IAarr ARE SZ_5 (show 255 - glog a.toNat < 510 by omega)).2 ?_
    rw [Nat.mul_one, Nat.zero_add]
    refine (ld1 ONE_5 (v := .int .u8 (gexp (255 - glog a.toNat) : Nat)) (((blk_drew hb).cell (o := 255 - glog a.toNat)).trans (he _ (by omega)))).2 ?_
    refine ⟨?_, kept_drew _ _⟩
    rw [uinv_val, ginv, if_neg (by omega)]
theorem fmul_ok {f : Nat} {a b : UInt8} {w : World} (h : FieldIs w f) : Gives Tryd.prog 50 #[.pointer (some ⟨f, 0, none⟩), .int .u8 a.toNat, .int .u8 b.toNat] w fun u w' => u = .int .u8 (umul a b).toNat ∧ Kept [] w w' := by
  obtain ⟨cur, hb, he, hl⟩ := h
  refine C_gf_Field_Mul ?_
  unfold S_gf_Field_Mul
  refine xJoin_of (fun ls w' => ls = [.bool (decide (a = 0 ∨ b = 0))] ∧ w = w') ?_ ?_
  · simp only [xR_eql, xIf_dec, u8_zero]
    refine ⟨fun h0 => ⟨by rw [decide_eq_true (.inl h0)], trivial⟩, fun h0 => ⟨?_, trivial⟩⟩
    rw [decide_eq_decide.2 (show (b = 0) ↔ (a = 0 ∨ b = 0) from ⟨.inr, fun h => h.resolve_left h0⟩)]
  rintro _ _ _ ⟨rfl, rfl⟩
  simp only [List.getD_cons_zero, xIf_dec]
  refine ⟨fun h0 => ?_, fun h0 => ?_⟩
  · refine ⟨?_, Kept.refl _ _⟩
    rcases h0 with h0 | h0
    · subst h0; rw [zero_umul]; rfl
    · subst h0; rw [umul_zero]; rfl
  · have ha : a ≠ 0 := fun e => h0 (.inl e)
    have hb0 : b ≠ 0 := fun e => h0 (.inr e)
    have hpa : 0 < a.toNat := Nat.pos_of_ne_zero fun e => ha (UInt8.toNat_inj.1 e)
    have hpb : 0 < b.toNat := Nat.pos_of_ne_zero fun e => hb0 (UInt8.toNat_inj.1 e)
    have hga := glog_lt (u_lt a)
    have hgb := glog_lt (u_lt b)
    try simp only [xP_nil, xP_pick, xP_func, xP_not, xP_add, xP_sub, xP_mul, xP_lss, xP_leq, xP_gtr, xP_geq, xP_max2, xP_min2, xR_eql, xR_neq, Nat.zero_add, Nat.add_zero, Nat.reduceAdd, List.getD_cons_zero, List.getD_cons_succ, xIf_true, xIf_false, FA_35_0, FA_35_1, FA_66_0, FA_66_1, FA_66_2, FA_82_0, FA_82_1, FA_82_2, FA_86_0, FA_86_1, LEN_29, LEN_32, LEN_47, LEN_48, LEN_79, LEN_116]
    refine (xP_IAarr ARL SZ_3 (u_lt a)).2 ?_
    rw [Nat.mul_one]
    refine (ld1 ONE_3 (v := .int .i64 (glog a.toNat : Nat)) (((blk_drew hb).cell (o := 510 + a.toNat)).trans (hl _ hpa (u_lt a)))).2 ?_
    try simp only [xP_nil, xP_pick, xP_func, xP_not, xP_add, xP_sub, xP_mul, xP_lss, xP_leq, xP_gtr, xP_geq, xP_max2, xP_min2, xR_eql, xR_neq, Nat.zero_add, Nat.add_zero, Nat.reduceAdd, List.getD_cons_zero, List.getD_cons_succ, xIf_true, xIf_false, FA_35_0, FA_35_1, FA_66_0, FA_66_1, FA_66_2, FA_82_0, FA_82_1, FA_82_2, FA_86_0, FA_86_1, LEN_29, LEN_32, LEN_47, LEN_48, LEN_79, LEN_116]
    refine (xP_IAarr ARL SZ_3 (u_lt b)).2 ?_
    rw [Nat.mul_one]
    refine (ld1 ONE_3 (v := .int .i64 (glog b.toNat : Nat)) (((blk_drew hb).cell (o := 510 + b.toNat)).trans (hl _ hpb (u_lt b)))).2 ?_
    try simp only [xP_nil, xP_pick, xP_func, xP_not, xP_add, xP_sub, xP_mul, xP_lss, xP_leq, xP_gtr, xP_geq, xP_max2, xP_min2, xR_eql, xR_neq, Nat.zero_add, Nat.add_zero, Nat.reduceAdd, List.getD_cons_zero, List.getD_cons_succ, xIf_true, xIf_false, FA_35_0, FA_35_1, FA_66_0, FA_66_1, FA_66_2, FA_82_0, FA_82_1, FA_82_2, FA_86_0, FA_86_1, LEN_29, LEN_32, LEN_47, LEN_48, LEN_79, LEN_116]
    rw [wrap64 (by omega) (by omega), show ((glog a.toNat : Nat) : Int) + (glog b.toNat : Nat) = ((glog a.toNat + glog b.toNat : Nat) : Int) by omega]
    refine (xP_IAarr ARE SZ_5 (show glog a.toNat + glog b.toNat < 510 by omega)).2 ?_
    rw [Nat.mul_one, Nat.zero_add]
    refine (ld1 ONE_5 (v := .int .u8 (gexp (glog a.toNat + glog b.toNat) : Nat)) (((blk_drew hb).cell (o := glog a.toNat + glog b.toNat)).trans (he _ (by omega)))).2 ?_
    refine ⟨?_, kept_drew _ _⟩
    rw [umul_val, gmul_exp (u_lt a) (u_lt b) (by omega) (by omega)]
theorem fmulS {f : Nat} {a b : UInt8} {w : World} {K : Value → World → Prop} (h : FieldIs w f) (k : ∀ w', Kept [] w w' → K (.int .u8 (umul a b).toNat) w') : xE Tryd.prog (sCall 50 #[.pointer (some ⟨f, 0, none⟩), .int .u8 a.toNat, .int .u8 b.toNat]) w K :=
  xE_call CF_50 (fmul_ok h) (fun u w' ⟨e, hk⟩ => by subst e; exact k w' hk)
theorem finvS {f : Nat} {a : UInt8} {w : World} {K : Value → World → Prop} (h : FieldIs w f) (k : ∀ w', Kept [] w w' → K (.int .u8 (uinv a).toNat) w') : xE Tryd.prog (sCall 29 #[.pointer (some ⟨f, 0, none⟩), .int .u8 a.toNat]) w K :=
  xE_call CF_29 (finv_ok h) (fun u w' ⟨e, hk⟩ => by subst e; exact k w' hk)
theorem xor_u8 {a b : UInt8} : IntKind.u8.wrap ((BitVec.ofInt 8 (a.toNat : Int) ^^^ BitVec.ofInt 8 (b.toNat : Int)).toNat : Nat) = ((a ^^^ b).toNat : Int) := by
  have ha := u_lt a
  have hb := u_lt b
  have e : (BitVec.ofInt 8 (a.toNat : Int) ^^^ BitVec.ofInt 8 (b.toNat : Int)).toNat = a.toNat ^^^ b.toNat := by
    rw [BitVec.toNat_xor, BitVec.toNat_ofInt, BitVec.toNat_ofInt]
    have e1 : ((a.toNat : Int) % ((2 : Nat) ^ 8 : Nat)).toNat = a.toNat := by omega
    have e2 : ((b.toNat : Int) % ((2 : Nat) ^ 8 : Nat)).toNat = b.toNat := by omega
    rw [e1, e2]
  rw [e, UInt8.toNat_xor]
  have := xor_lt ha hb
  rw [wrapU8]
  omega
theorem xP_xor8 {T : TypeId} {K : Value → Prop} {a b : UInt8} : xP Tryd.prog (sBin .xor T (.int .u8 a.toNat) (.int .u8 b.toNat)) K ↔ K (.int .u8 (a ^^^ b).toNat) :=
  xP_xor.trans (Iff.of_eq (congrArg (fun z => K (.int .u8 z)) xor_u8))
theorem getD_cell8 {f : List UInt8} {k : Nat} (hk : k < f.length) : (f.flatMap encB)[k]? = some (.int .u8 (f.getD k 0).toNat) := by
  rw [flat_B, List.getElem?_map, List.getElem?_eq_getElem hk, getD_lt hk]
  rfl
/-- The first i bytes are added. -/
def addU (xs ys : List UInt8) (x : UInt8) (i : Nat) : List UInt8 := (mulAdd xs ys x).take i ++ xs.drop i
theorem addU_len {xs ys : List UInt8} {x : UInt8} (h : xs.length = ys.length) (i : Nat) : (addU xs ys x i).length = xs.length := by
  unfold addU
  rw [List.length_append, List.length_take, List.length_drop, mulAdd_len h]
  omega
theorem addU_at {xs ys : List UInt8} {x : UInt8} (h : xs.length = ys.length) {i : Nat} (hi : i < xs.length) : (addU xs ys x i).getD i 0 = xs.getD i 0 := by
  unfold addU
  rw [List.getD_eq_getElem?_getD, List.getElem?_append_right (by rw [List.length_take, mulAdd_len h]; omega), List.length_take, mulAdd_len h, List.getElem?_drop, List.getD_eq_getElem?_getD]
  congr 2
  omega
theorem addU_set {xs ys : List UInt8} {x : UInt8} (h : xs.length = ys.length) {i : Nat} (hi : i < xs.length) : (addU xs ys x i).set i (xs.getD i 0 ^^^ umul x (ys.getD i 0)) = addU xs ys x (i + 1) := by
  unfold addU
  have hl := mulAdd_len h x
  rw [List.set_append_right _ _ (by rw [List.length_take, hl]; omega), List.length_take, hl, show i - min i xs.length = 0 by omega, List.drop_eq_getElem_cons hi, List.set_cons_zero, ← mulAdd_get h, List.take_add_one, List.append_assoc]
  congr 1
  rw [List.getElem?_eq_getElem (by rw [hl]; exact hi), getD_lt (by rw [hl]; exact hi)]
  rfl
theorem fadd_ok {f : Nat} {v u : Value} {xs ys : List UInt8} {x : UInt8} {F : List Nat} {w : World} (h : FieldIs w f) (hf : f ∉ F) (hv : Own w 5 1 v xs.length (xs.flatMap encB) F) (hu : SlT w encB u ys) (hl : xs.length = ys.length) (hd : 0 < ys.length → ∀ b o n c, u = .slice (some ⟨b, o, none⟩) n c → b ∉ F) (hs : xs.length ≤ 1000000) :
    Gives Tryd.prog 39 #[.pointer (some ⟨f, 0, none⟩), v, u, .int .u8 x.toNat] w fun _ w' => Own w' 5 1 v xs.length ((mulAdd xs ys x).flatMap encB) F ∧ Kept F w w' := by
  refine C_gf_Field_Add ?_
  unfold S_gf_Field_Add
  obtain ⟨va, vc, rfl, hvc, _⟩ := hv.slice
  obtain ⟨ua, uc, rfl, huc, hur⟩ := hu
  have hu : SlT w encB (.slice ua ys.length uc) ys := ⟨ua, uc, rfl, huc, hur⟩
  simp only [xP_nil, xP_pick, xP_func, xP_not, xP_add, xP_sub, xP_mul, xP_lss, xP_leq, xP_gtr, xP_geq, xP_max2, xP_min2, xR_eql, xR_neq, Nat.zero_add, Nat.add_zero, Nat.reduceAdd, List.getD_cons_zero, List.getD_cons_succ, xIf_true, xIf_false, FA_35_0, FA_35_1, FA_66_0, FA_66_1, FA_66_2, FA_82_0, FA_82_1, FA_82_2, FA_86_0, FA_86_1, LEN_29, LEN_32, LEN_47, LEN_48, LEN_79, LEN_116]
  rw [show min ((xs.length : Nat) : Int) (ys.length : Nat) = (xs.length : Nat) by omega]
  refine xLoop_of (fun ls w' => ∃ i : Nat, ls = [.int .i64 i] ∧ i ≤ xs.length ∧ Own w' 5 1 (.slice va xs.length vc) xs.length ((addU xs ys x i).flatMap encB) F ∧ Kept F w w') (fun ls _ => match ls with | [.int _ i] => xs.length - i.toNat | _ => 0) ⟨0, rfl, by omega, by simpa [addU] using hv, Kept.refl _ _⟩ ?_
  rintro _ _ w1 ⟨i, rfl, hi, ho, hk⟩
  simp only [xP_nil, xP_pick, xP_func, xP_not, xP_add, xP_sub, xP_mul, xP_lss, xP_leq, xP_gtr, xP_geq, xP_max2, xP_min2, xR_eql, xR_neq, Nat.zero_add, Nat.add_zero, Nat.reduceAdd, List.getD_cons_zero, List.getD_cons_succ, xIf_true, xIf_false, FA_35_0, FA_35_1, FA_66_0, FA_66_1, FA_66_2, FA_82_0, FA_82_1, FA_82_2, FA_86_0, FA_86_1, LEN_29, LEN_32, LEN_47, LEN_48, LEN_79, LEN_116, xIf_dec]
  refine ⟨fun hlt => ?_, fun hge => ?_⟩
  · have hi1 : i < xs.length := by omega
    have hd1 := kept_drew [] w1
    obtain ⟨g, o, c, he, hF⟩ := ho.ex (by omega)
    cases he
    have hod := ho.kept hd1 (by simp)
    refine (xP_IAn SL_32 SZ_5 hi1).2 ?_
    rw [Nat.mul_one]
    have hcell : ∀ w', Own w' 5 1 (.slice (some ⟨g, o, none⟩) xs.length vc) xs.length ((addU xs ys x i).flatMap encB) F → w'.cell? ⟨g, o + i, none⟩ = some (.int .u8 (xs.getD i 0).toNat) := fun w' h' => by
      refine at_cell h'.at_.2 ?_
      rw [getD_cell8 (by rw [addU_len hl]; exact hi1), addU_at hl hi1]
    refine (ld1 ONE_5 (hcell _ hod)).2 ?_
    have hu1 : SlT w1 encB (.slice ua ys.length uc) ys := hu.kept hk (hd (by omega))
    refine (rowB.get hu1 hd1 (show i < ys.length by omega)).2 ?_
    rw [← getD_lt (d := 0) (show i < ys.length by omega)]
    refine fmulS ((h.kept hk hf).kept hd1 (by simp)) fun w2 hk2 => ?_
    have ho2 := hod.kept hk2 (by simp)
    refine (still1 ONE_5 (hcell _ ho2)).2 ?_
    rw [xP_xor8]
    refine (xP_IAn SL_32 SZ_5 hi1).2 ?_
    rw [Nat.mul_one]
    refine xE_storeOwn SZ_5 ho2 (by rw [flat_len encB_len, addU_len hl]; omega) rfl fun w3 ho3 hk3 hz3 => ?_
    rw [flip_set8, addU_set hl hi1] at ho3
    try simp only [xP_nil, xP_pick, xP_func, xP_not, xP_add, xP_sub, xP_mul, xP_lss, xP_leq, xP_gtr, xP_geq, xP_max2, xP_min2, xR_eql, xR_neq, Nat.zero_add, Nat.add_zero, Nat.reduceAdd, List.getD_cons_zero, List.getD_cons_succ, xIf_true, xIf_false, FA_35_0, FA_35_1, FA_66_0, FA_66_1, FA_66_2, FA_82_0, FA_82_1, FA_82_2, FA_86_0, FA_86_1, LEN_29, LEN_32, LEN_47, LEN_48, LEN_79, LEN_116]
    rw [wrap64 (by omega) (by omega)]
    exact ⟨⟨i + 1, rfl, by omega, ho3, ((hk.then hd1 (by simp)).then hk2 (by simp)).then hk3 (by rw [hF]; intro k hk; exact .inl hk)⟩, by omega⟩
  · obtain rfl : i = xs.length := by omega
    have e : addU xs ys x xs.length = mulAdd xs ys x := by
      unfold addU
      rw [List.drop_length, List.append_nil, List.take_of_length_le (by rw [mulAdd_len hl]; omega)]
    rw [e] at ho
    exact ⟨ho, hk⟩
end Go.Proofs.YtoanmeohlpdjfaaDoor
