import Derived.Test.YtoanmeohlpdjfaaDoorXcCode2
namespace Go.Proofs.YtoanmeohlpdjfaaDoor
set_option linter.unusedSimpArgs false
set_option linter.unusedVariables false
set_option maxRecDepth 100000
attribute [local irreducible] Go.X.xE
open Go Go.X Go.RowKit

/-! ## A code -/
theorem rowW : RowB Tryd.prog 29 32 1 encW (fun r : Value × List UInt8 => r.1) := RowB.one SL_29 SZ_32 ONE_32
structure CodeIs (w : World) (p k n : Nat) (f : Nat) (v : Value) : Prop where
  blk : Blk w p 66 [.int .i64 k, .pointer (some ⟨f, 0, none⟩), v]
  fld : FieldIs w f
  rows : RowsT w v (crows k n)
  k1 : 1 ≤ k
  kn : k ≤ n
  n8 : n ≤ 8
theorem CodeIs.kept0 {w w' : World} {p k n f : Nat} {v : Value} (h : CodeIs w p k n f v) (hk : Kept [] w w') : CodeIs w' p k n f v :=
  ⟨h.blk.kept hk (by simp), h.fld.kept hk (by simp), h.rows.kept0 hk, h.k1, h.kn, h.n8⟩
theorem crows_len (k n : Nat) : (crows k n).length = n := by simp [crows]
theorem crows_get {k n a : Nat} (h : a < n) : (crows k n).getD a [] = crow k a := by
  unfold crows
  rw [List.getD_eq_getElem?_getD, List.getElem?_map, List.getElem?_range h]
  rfl
theorem CodeIs.ld {w w' : World} {p k n f : Nat} {v : Value} (h : CodeIs w p k n f v) (hk : Kept [] w w') :
    (∀ K, xR Tryd.prog (sLoad 3 (.pointer (some ⟨p, 0, none⟩))) w' K ↔ K (.int .i64 k)) ∧ (∀ K, xR Tryd.prog (sLoad 63 (.pointer (some ⟨p, 1, none⟩))) w' K ↔ K (.pointer (some ⟨f, 0, none⟩))) ∧
    (∀ K, xR Tryd.prog (sLoad 29 (.pointer (some ⟨p, 2, none⟩))) w' K ↔ K v) := by
  have hb := h.blk.kept hk (by simp)
  exact ⟨fun _ => ld1 ONE_3 (hb.cell (o := 0)), fun _ => ld1 ONE_63 (hb.cell (o := 1)), fun _ => ld1 ONE_29 (hb.cell (o := 2))⟩
def opCN : ByteArray := ⟨#[99, 111, 100, 101, 46, 78, 101, 119]⟩
def goodKN (k n : Int) : Prop := 1 ≤ k ∧ k ≤ n ∧ n ≤ 8
instance (k n : Int) : Decidable (goodKN k n) := by unfold goodKN; exact inferInstance
theorem cwrapK {op : ByteArray} {i k : Int} {w : World} {K : Value → World → Prop} (c : K (erV (.flt op i (.no k))) w) : xP Tryd.prog (sIface 27 (.int .i64 k)) fun v => xE Tryd.prog (sCall 27 #[.string op, .int .i64 i, v]) w K := by
  refine (xP_iface CEN).2 ?_
  refine xE_call CF_27 wrap_ok ?_
  rintro _ _ ⟨rfl, rfl⟩
  exact c
theorem new_bad {k n : Int} {w : World} (h : ¬ goodKN k n) : Gives Tryd.prog 12 #[.int .i64 k, .int .i64 n] w fun u w' => u = .tuple #[.pointer none, erV (.flt opCN 0 (.no 1))] ∧ w = w' := by
  refine C_code_New ?_
  unfold S_code_New
  refine xJoin_of (fun ls w' => ls = [.bool true] ∧ w = w') ?_ ?_
  · simp only [xP_nil, xP_pick, xP_func, xP_not, xP_add, xP_sub, xP_mul, xP_lss, xP_leq, xP_gtr, xP_geq, xP_max2, xP_min2, xR_eql, xR_neq, Nat.zero_add, Nat.add_zero, Nat.reduceAdd, List.getD_cons_zero, List.getD_cons_succ, xIf_true, xIf_false, FA_35_0, FA_35_1, FA_66_0, FA_66_1, FA_66_2, FA_82_0, FA_82_1, FA_82_2, FA_86_0, FA_86_1, LEN_29, LEN_32, LEN_47, LEN_48, LEN_79, LEN_116, xIf_dec]
    unfold goodKN at h
    exact ⟨fun _ => ⟨trivial, trivial⟩, fun h1 => ⟨fun _ => ⟨trivial, trivial⟩, fun h2 => ⟨by rw [decide_eq_true (by omega)], trivial⟩⟩⟩
  rintro _ _ _ ⟨rfl, rfl⟩
  simp only [List.getD_cons_zero, xIf_true]
  exact cwrapK ⟨rfl, rfl⟩
/-- Row a, of which j bytes are made. -/
def crowU (k a j : Nat) : List UInt8 := (List.range j).map (coef k a) ++ List.replicate (k - j) 0
theorem crowU_len {k a j : Nat} (h : j ≤ k) : (crowU k a j).length = k := by unfold crowU; simp; omega
theorem crowU_set {k a j : Nat} (h : j < k) : (crowU k a j).set j (coef k a j) = crowU k a (j + 1) := by
  unfold crowU
  rw [List.set_append_right _ _ (by simp), List.length_map, List.length_range, Nat.sub_self, show k - j = (k - (j + 1)) + 1 by omega, List.replicate_succ, List.set_cons_zero, List.range_succ, List.map_append, List.append_assoc]
  rfl
theorem crowU_same {k a j : Nat} (h : j < k) (hc : coef k a j = 0) : crowU k a j = crowU k a (j + 1) := by
  unfold crowU
  rw [show k - j = (k - (j + 1)) + 1 by omega, List.replicate_succ, List.range_succ, List.map_append, List.append_assoc]
  show _ = _ ++ ([coef k a j] ++ _)
  rw [hc]
  rfl
theorem crowU_all (k a : Nat) : crowU k a k = crow k a := by
  unfold crowU crow
  rw [Nat.sub_self, List.replicate_zero, List.append_nil]
theorem zeros8 (n : Nat) : (List.replicate n (0 : UInt8)).flatMap encB = List.replicate n (.int .u8 0) := by
  rw [flat_B, List.map_replicate]; rfl
/-- make([]byte, n) -/
theorem makeB {n : Nat} {w : World} {K : Value → World → Prop} (hn : n ≤ 1000000) (k : ∀ w', Own w' 5 1 (.slice (some ⟨w.heap.size, 0, none⟩) n n) n ((List.replicate n 0).flatMap encB) [w.heap.size] → Kept [] w w' → w'.heap.size = w.heap.size + 1 → K (.slice (some ⟨w.heap.size, 0, none⟩) n n) w') :
    xE Tryd.prog (sMakeSlice 32 (.int .i64 n) (.int .i64 n)) w K := by
  refine xE_make EL_32 (l := n) (by omega) (by unfold maxLen; omega) fun w1 hb1 hk1 hz1 => k w1 ?_ hk1 hz1
  rw [zeros8]
  exact own_of_blk hb1 (by simp) (by unfold maxLen; omega)
theorem new_ok {k n : Nat} {w : World} (h1 : 1 ≤ k) (h2 : k ≤ n) (h3 : n ≤ 8) : Gives Tryd.prog 12 #[.int .i64 k, .int .i64 n] w fun u w' => ∃ p f v, u = .tuple #[.pointer (some ⟨p, 0, none⟩), .nilIface] ∧ CodeIs w' p k n f v ∧ Kept [] w w' := by
  refine C_code_New ?_
  unfold S_code_New
  refine xJoin_of (fun ls w' => ls = [.bool false] ∧ w = w') ?_ ?_
  · simp only [xP_nil, xP_pick, xP_func, xP_not, xP_add, xP_sub, xP_mul, xP_lss, xP_leq, xP_gtr, xP_geq, xP_max2, xP_min2, xR_eql, xR_neq, Nat.zero_add, Nat.add_zero, Nat.reduceAdd, List.getD_cons_zero, List.getD_cons_succ, xIf_true, xIf_false, FA_35_0, FA_35_1, FA_66_0, FA_66_1, FA_66_2, FA_82_0, FA_82_1, FA_82_2, FA_86_0, FA_86_1, LEN_29, LEN_32, LEN_47, LEN_48, LEN_79, LEN_116, xIf_dec]
    exact ⟨fun h => by omega, fun _ => ⟨fun h => by omega, fun _ => ⟨by rw [decide_eq_false (by omega)], trivial⟩⟩⟩
  rintro _ _ _ ⟨rfl, rfl⟩
  simp only [List.getD_cons_zero, xIf_false]
  refine xE_call CF_28 fmake_ok ?_
  rintro _ w1 ⟨rfl, hf1, hk1⟩
  refine (xP_build (cells := #[.int .i64 k, .pointer (some ⟨w.heap.size, 0, none⟩), .slice none 0 0]) (by kernel_rfl)).2 ?_
  refine xE_box fun w2 hb2 hk2 hz2 => ?_
  have hb2 : Blk w2 w1.heap.size 66 [.int .i64 k, .pointer (some ⟨w.heap.size, 0, none⟩), .slice none 0 0] := hb2
  have hf2 := hf1.kept hk2 (by simp)
  have hk02 : Kept [] w w2 := hk1.then hk2 (by simp)
  have hfl := hf1.lt
  generalize w.heap.size = f at *
  have hpz := hz2
  generalize hp : w1.heap.size = p at *
  refine xLoop_of (fun ls w' => ∃ (a : Nat) (rs : List Rq) (G : List Nat) (v : Value), ls = [.int .i64 a] ∧ a ≤ n ∧ Blk w' p 66 [.int .i64 k, .pointer (some ⟨f, 0, none⟩), v] ∧ FieldIs w' f ∧ Out 32 5 w2 w' v rs G ∧ rs.map Rq.x = crows k a ∧ Kept [] w w' ∧ w2.heap.size ≤ w'.heap.size)
    (fun ls _ => match ls with | [.int _ a] => n - a.toNat | _ => 0) ⟨0, [], [], _, rfl, by omega, hb2, hf2, out_nil _ _, rfl, hk02, Nat.le_refl _⟩ ?_
  rintro _ _ w3 ⟨a, rs, G, v, rfl, ha, hb3, hf3, ho3, hrx, hk3, hz3⟩
  simp only [xP_nil, xP_pick, xP_func, xP_not, xP_add, xP_sub, xP_mul, xP_lss, xP_leq, xP_gtr, xP_geq, xP_max2, xP_min2, xR_eql, xR_neq, Nat.zero_add, Nat.add_zero, Nat.reduceAdd, List.getD_cons_zero, List.getD_cons_succ, xIf_true, xIf_false, FA_35_0, FA_35_1, FA_66_0, FA_66_1, FA_66_2, FA_82_0, FA_82_1, FA_82_2, FA_86_0, FA_86_1, LEN_29, LEN_32, LEN_47, LEN_48, LEN_79, LEN_116, xIf_dec]
  refine ⟨fun hlt => ?_, fun hge => ?_⟩
  · refine makeB (by omega) fun w4 hr4 hk4 hz4 => ?_
    simp only [xP_nil, xP_pick, xP_func, xP_not, xP_add, xP_sub, xP_mul, xP_lss, xP_leq, xP_gtr, xP_geq, xP_max2, xP_min2, xR_eql, xR_neq, Nat.zero_add, Nat.add_zero, Nat.reduceAdd, List.getD_cons_zero, List.getD_cons_succ, xIf_true, xIf_false, FA_35_0, FA_35_1, FA_66_0, FA_66_1, FA_66_2, FA_82_0, FA_82_1, FA_82_2, FA_86_0, FA_86_1, LEN_29, LEN_32, LEN_47, LEN_48, LEN_79, LEN_116]
    have hb4 := hb3.kept hk4 (by simp)
    have hf4 := hf3.kept hk4 (by simp)
    have ho4 := ho3.kept0 hk4
    have hGlt := ho3.own.lt
    have hrlt : ∀ r ∈ rs, ∀ g ∈ r.F, g < w3.heap.size := fun r hr => (ho3.ok r hr).lt
    generalize hh : w3.heap.size = g at *
    refine xLoop_of (fun ls w' => ∃ j : Nat, ls = [.int .i64 j] ∧ j ≤ k ∧ Own w' 5 1 (.slice (some ⟨g, 0, none⟩) k k) k ((crowU k a j).flatMap encB) [g] ∧ Kept [g] w4 w')
      (fun ls _ => match ls with | [.int _ j] => k - j.toNat | _ => 0) ⟨0, rfl, by omega, by simpa [crowU] using hr4, Kept.refl _ _⟩ ?_
    rintro _ _ w5 ⟨j, rfl, hj, hr5, hk5⟩
    simp only [xP_nil, xP_pick, xP_func, xP_not, xP_add, xP_sub, xP_mul, xP_lss, xP_leq, xP_gtr, xP_geq, xP_max2, xP_min2, xR_eql, xR_neq, Nat.zero_add, Nat.add_zero, Nat.reduceAdd, List.getD_cons_zero, List.getD_cons_succ, xIf_true, xIf_false, FA_35_0, FA_35_1, FA_66_0, FA_66_1, FA_66_2, FA_82_0, FA_82_1, FA_82_2, FA_86_0, FA_86_1, LEN_29, LEN_32, LEN_47, LEN_48, LEN_79, LEN_116, xIf_dec]
    have hb5 := hb4.kept hk5 (by simp; omega)
    have hf5 := hf4.kept hk5 (by simp; omega)
    refine ⟨fun hlj => ?_, fun hgj => ?_⟩
    · have hjk : j < k := by omega
      refine xJoin_of (fun ls w' => ls = [] ∧ Own w' 5 1 (.slice (some ⟨g, 0, none⟩) k k) k ((crowU k a (j + 1)).flatMap encB) [g] ∧ Kept [g] w4 w') ?_ ?_
      · refine ⟨fun hka => ?_, fun hka => ?_⟩
        · refine (ld1 ONE_63 (hb5.cell (o := 1))).2 ?_
          refine (xP_xorN (by omega) (by omega)).2 ?_
          refine (xP_conv CI64 CU8).2 ?_
          have hx := xor_lt (show a < 256 by omega) (show j < 256 by omega)
          have e8 : IntKind.u8.wrap ((a ^^^ j : Nat) : Int) = ((UInt8.ofNat (a ^^^ j)).toNat : Int) := by rw [wrapU8, u_of hx]; omega
          rw [e8]
          refine finvS hf5 fun w6 hk6 => ?_
          have hr6 := hr5.kept hk6 (by simp)
          refine (xP_IAn SL_32 SZ_5 hjk).2 ?_
          rw [Nat.mul_one, Nat.zero_add]
          have := xE_storeOwn (P := Tryd.prog) (T := 5) (K := fun _ w' => ([] : List Value) = [] ∧ Own w' 5 1 (.slice (some ⟨g, 0, none⟩) k k) k ((crowU k a (j + 1)).flatMap encB) [g] ∧ Kept [g] w4 w') (u := .int .u8 (uinv (UInt8.ofNat (a ^^^ j))).toNat) SZ_5 hr6 (i := j) (by rw [flat_len encB_len, crowU_len hj]; omega) rfl fun w7 ho7 hk7 hz7 => by
            rw [flip_set8, show uinv (UInt8.ofNat (a ^^^ j)) = coef k a j by unfold coef; rw [if_pos (by omega)], crowU_set hjk] at ho7
            exact ⟨rfl, ho7, (hk5.then hk6 (by simp)).then hk7 (by simp)⟩
          rw [Nat.zero_add] at this
          exact this
        · refine ⟨fun haj => ?_, fun haj => ?_⟩
          · refine (xP_IAn SL_32 SZ_5 hjk).2 ?_
            rw [Nat.mul_one, Nat.zero_add]
            have := xE_storeOwn (P := Tryd.prog) (T := 5) (K := fun _ w' => ([] : List Value) = [] ∧ Own w' 5 1 (.slice (some ⟨g, 0, none⟩) k k) k ((crowU k a (j + 1)).flatMap encB) [g] ∧ Kept [g] w4 w') (u := .int .u8 (1 : UInt8).toNat) SZ_5 hr5 (i := j) (by rw [flat_len encB_len, crowU_len hj]; omega) rfl fun w7 ho7 hk7 hz7 => by
              rw [flip_set8, show (1 : UInt8) = coef k a j by unfold coef; rw [if_neg (by omega), if_pos (by omega)], crowU_set hjk] at ho7
              exact ⟨rfl, ho7, hk5.then hk7 (by simp)⟩
            rw [Nat.zero_add] at this
            exact this
          · have hc : coef k a j = 0 := by unfold coef; rw [if_neg (by omega), if_neg (by omega)]
            rw [← crowU_same hjk hc]
            exact ⟨rfl, hr5, hk5⟩
      rintro _ _ w6 ⟨rfl, hr6, hk6⟩
      rw [wrap64 (by omega) (by omega)]
      exact ⟨⟨j + 1, rfl, by omega, hr6, hk6⟩, by omega⟩
    · obtain rfl : j = k := by omega
      rw [crowU_all] at hr5
      have ho5 := ho4.kept hk5 (fun x hx hm => by simp at hm; have := hGlt x hx; omega) (fun r hr x hx hm => by simp at hm; have := hrlt r hr x hx; omega)
      refine (ld1 ONE_29 (hb5.cell (o := 2))).2 ?_
      have hz5 := hk5.size
      refine xE_one EL_29 rfl fun w6 hat hk6 hz6 => ?_
      have hrok : Rq.Ok 5 w6 ⟨.slice (some ⟨g, 0, none⟩) j j, [g], crow j a⟩ := by
        have := hr5.kept hk6 (by simp)
        unfold Rq.Ok
        rw [crow_len]
        exact this
      have hrl : rs.length = a := by have := congrArg List.length hrx; rwa [List.length_map, crows_len] at this
      refine (ho5.kept0 hk6).app (r := ⟨.slice (some ⟨g, 0, none⟩) j j, [g], crow j a⟩) EL_29 hrok (fun x hx => ?_) hat (by omega) (by omega) (by omega) fun u w7 G' ho7 hk7 hG' => ?_
      · simp at hx
        subst hx
        exact ⟨by omega, fun hm => by have := hGlt x hm; omega, fun q hq hm => by have := hrlt q hq x hm; omega⟩
      · have hpG : p ∉ G := fun hm => by have := ho3.fresh p hm; omega
        have hfG : f ∉ G := fun hm => by have := ho3.fresh f hm; omega
        have hb7 := (hb5.kept hk6 (by simp)).kept hk7 hpG
        have hf7 := (hf5.kept hk6 (by simp)).kept hk7 hfG
        try simp only [xP_nil, xP_pick, xP_func, xP_not, xP_add, xP_sub, xP_mul, xP_lss, xP_leq, xP_gtr, xP_geq, xP_max2, xP_min2, xR_eql, xR_neq, Nat.zero_add, Nat.add_zero, Nat.reduceAdd, List.getD_cons_zero, List.getD_cons_succ, xIf_true, xIf_false, FA_35_0, FA_35_1, FA_66_0, FA_66_1, FA_66_2, FA_82_0, FA_82_1, FA_82_2, FA_86_0, FA_86_1, LEN_29, LEN_32, LEN_47, LEN_48, LEN_79, LEN_116]
        refine xE_store1 SZ_29 hb7 (by simp) (Own.oneC ho7.own) fun w8 hb8 hk8 hz8 => ?_
        have hz7 := hk7.size
        have hpG' : p ∉ G' := fun hm => (hG' p hm).elim hpG (fun h => by omega)
        rw [wrap64 (by omega) (by omega)]
        refine ⟨⟨a + 1, rs ++ [_], G', u, rfl, by omega, hb8, hf7.kept hk8 (by simp; omega), ho7.kept hk8 (fun x hx hm => by simp at hm; exact hpG' (hm ▸ hx)) (fun r hr x hx hm => by simp at hm; have := (ho7.rf r hr x hx).1; omega), ?_, ?_, by omega⟩, by omega⟩
        · rw [List.map_append, hrx]
          unfold crows
          rw [List.range_succ, List.map_append]
          rfl
        · have hwp : w.heap.size ≤ p := by rw [← hp]; exact hk1.size
          refine (((hk3.then hk4 (by simp)).then hk5 ?_).then hk6 (by simp)).then hk7 ?_ |>.then hk8 ?_
          · intro x hx; simp at hx; subst hx; exact .inr (by rw [← hh]; exact hk3.size)
          · intro x hx; exact .inr (by have := ho3.fresh x hx; omega)
          · intro x hx; simp at hx; subst hx; exact .inr hwp
  · obtain rfl : a = n := by omega
    exact ⟨p, f, v, rfl, ⟨hb3, hf3, by rw [← hrx]; exact ho3.rows, h1, h2, h3⟩, hk3⟩
end Go.Proofs.YtoanmeohlpdjfaaDoor
