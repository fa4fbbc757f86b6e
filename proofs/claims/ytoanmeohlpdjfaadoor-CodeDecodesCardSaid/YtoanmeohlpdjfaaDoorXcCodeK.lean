import Derived.Test.YtoanmeohlpdjfaaDoorXcCodeJ
namespace Go.Proofs.YtoanmeohlpdjfaaDoor
set_option linter.unusedSimpArgs false
set_option linter.unusedVariables false
set_option maxRecDepth 100000
attribute [local irreducible] Go.X.xE
open Go Go.X Go.RowKit

/-! ## The document's fragments; CodeTells -/
theorem xR_pneq {P : Program} {T : TypeId} {w : World} {K : Value → Prop} {p : Option Addr} {c : Bool} (h : ptrB P T) : xR P (sEq .neq T c (.pointer p) (.pointer none)) w K ↔ K (.bool (!p.isNone)) :=
  xR_of (by
    unfold sEq
    refine run_sB P _ w ?_
    have : eqGuard .neq T (bif c then .const undef else .tmp 0) (.tmp 0) (.pointer p) (.pointer none) = pure () := by cases c <;> rfl
    rw [this]
    simp only [pure_bind]
    simp only [binOp, Op.equal, Op.maxDepth]
    have e : ∀ d : Nat, (Op.equalIn (d + 1) T (.pointer p) (.pointer none)).run P w = .ok p.isNone w := fun d => by
      unfold ptrB at h
      cases p <;> simp [Op.equalIn, run_underlying h]
    have := e 9999
    simp [this])
theorem BLB : boolB Tryd.prog 4 := by unfold boolB; kernel_rfl
theorem badB_true {k : Nat} {B : List (List UInt8)} {j : Nat} (hj : j < B.length) (h : (B.getD j []).length ≠ len0 B) : badB k B = true := by
  unfold badB
  rw [Bool.or_eq_true]
  right
  rw [List.any_eq_true]
  exact ⟨B.getD j [], by rw [getD_lt hj]; exact List.getElem_mem hj, decide_eq_true h⟩
theorem badB_false {k : Nat} {B : List (List UInt8)} (hl : B.length = k) (h : ∀ j, j < k → (B.getD j []).length = len0 B) : badB k B = false ∧ ∀ b ∈ B, b.length = len0 B := by
  have hb : ∀ b ∈ B, b.length = len0 B := fun b hb => by
    obtain ⟨j, hj, rfl⟩ := List.getElem_of_mem hb
    have := h j (by omega)
    rwa [getD_lt hj] at this
  refine ⟨?_, hb⟩
  unfold badB
  rw [decide_eq_false (by omega), Bool.false_or, List.any_eq_false]
  intro b hm
  rw [hb b hm]
  simp
theorem renc_ok {k n : Nat} {v : Value} {B : List (List UInt8)} {w : World} (h1 : 1 ≤ k) (h2 : k ≤ n) (h3 : n ≤ 8) (hB : RowsT w v B) (hl : B.length ≤ 1000000) (hs : len0 B ≤ 1000000) :
    Gives Tryd.prog 19 #[.int .i64 k, .int .i64 n, v] w fun u w' => Kept [] w w' ∧ match badB k B with
      | true => u = .tuple #[.slice none 0 0, .int .i64 1]
      | false => ∃ y, u = .tuple #[y, .int .i64 0] ∧ RowsT w' y (encP k n B (len0 B)) := by
  refine C_staveref1_Encode ?_
  unfold S_staveref1_Encode
  refine xJoin_of (fun ls w' => ls = [.bool (decide (B.length ≠ k))] ∧ Kept [] w w') ?_ ?_
  · refine xE_call CF_37 (row_ok (a := 0) h1 h2 h3 (by omega)) ?_
    rintro _ w1 ⟨rfl, _, hk1⟩
    refine (xR_eqlSl USB).2 ?_
    simp only [Option.isNone_some, xIf_false]
    refine (rowsLen hB).2 ?_
    refine xR_neq.2 ?_
    refine ⟨?_, hk1⟩
    rw [decide_eq_decide.2 (show ((B.length : Int) ≠ (k : Nat)) ↔ (B.length ≠ k) by omega)]
  rintro _ _ w1 ⟨rfl, hk1⟩
  simp only [List.getD_cons_zero, xIf_dec]
  refine ⟨fun hne => ?_, fun heq => ?_⟩
  · refine ⟨hk1, ?_⟩
    have : badB k B = true := by unfold badB; rw [decide_eq_true hne, Bool.true_or]
    rw [this]
  · have hBk : B.length = k := Classical.not_not.1 heq
    refine xLoop_of (fun ls w' => ∃ i : Nat, ls = [.int .i64 i] ∧ i ≤ k ∧ (∀ j, j < i → (B.getD j []).length = len0 B) ∧ Kept [] w w') (fun ls _ => match ls with | [.int _ i] => k - i.toNat | _ => 0) ⟨0, rfl, by omega, by omega, hk1⟩ ?_
    rintro _ _ w2 ⟨i, rfl, hi, hj, hk2⟩
    simp only [xP_nil, xP_pick, xP_func, xP_not, xP_add, xP_sub, xP_mul, xP_lss, xP_leq, xP_gtr, xP_geq, xP_max2, xP_min2, xR_eql, xR_neq, Nat.zero_add, Nat.add_zero, Nat.reduceAdd, List.getD_cons_zero, List.getD_cons_succ, xIf_true, xIf_false, FA_35_0, FA_35_1, FA_66_0, FA_66_1, FA_66_2, FA_82_0, FA_82_1, FA_82_2, FA_86_0, FA_86_1, LEN_29, LEN_32, LEN_47, LEN_48, LEN_79, LEN_116, xIf_dec]
    refine ⟨fun hlt => ?_, fun hge => ?_⟩
    · have hd2 := hk2.then (kept_drew [] w2) (by simp)
      refine hB.get rowW hd2 (by omega) fun x hx => ?_
      obtain ⟨xa, xc, rfl, _, _⟩ := hx
      refine (xP_len SL_32).2 ?_
      refine hB.get (i := 0) rowW hd2 (by omega) fun y hy => ?_
      obtain ⟨ya, yc, rfl, _, _⟩ := hy
      refine (xP_len SL_32).2 ?_
      simp only [xP_nil, xP_pick, xP_func, xP_not, xP_add, xP_sub, xP_mul, xP_lss, xP_leq, xP_gtr, xP_geq, xP_max2, xP_min2, xR_eql, xR_neq, Nat.zero_add, Nat.add_zero, Nat.reduceAdd, List.getD_cons_zero, List.getD_cons_succ, xIf_true, xIf_false, FA_35_0, FA_35_1, FA_66_0, FA_66_1, FA_66_2, FA_82_0, FA_82_1, FA_82_2, FA_86_0, FA_86_1, LEN_29, LEN_32, LEN_47, LEN_48, LEN_79, LEN_116, xIf_dec]
      refine ⟨fun hne => ⟨hd2, ?_⟩, fun heq => ?_⟩
      · rw [badB_true (show i < B.length by omega) (by unfold len0; omega)]
      · rw [wrap64 (by omega) (by omega)]
        refine ⟨⟨i + 1, rfl, by omega, fun j hjl => ?_, hd2⟩, by omega⟩
        by_cases hji : j = i
        · subst hji; unfold len0; omega
        · exact hj j (by omega)
    · obtain rfl : k = i := by omega
      obtain ⟨hbf, hrows⟩ := badB_false hBk hj
      refine xLoop_of (fun ls w' => ∃ (a : Nat) (o : Value) (rs : List Rq) (G : List Nat), ls = [o, .int .i64 a] ∧ a ≤ n ∧ Out 32 5 w w' o rs G ∧ rs.map Rq.x = encP k a B (len0 B) ∧ Kept [] w w') (fun ls _ => match ls with | [_, .int _ i] => n - i.toNat | _ => 0) ⟨0, _, [], [], rfl, by omega, out_nil _ _, rfl, hk2⟩ ?_
      clear hk1 hj
      rintro _ _ w3 ⟨a, o, rs, G, rfl, ha, ho3, hrx, hk3⟩
      simp only [xP_nil, xP_pick, xP_func, xP_not, xP_add, xP_sub, xP_mul, xP_lss, xP_leq, xP_gtr, xP_geq, xP_max2, xP_min2, xR_eql, xR_neq, Nat.zero_add, Nat.add_zero, Nat.reduceAdd, List.getD_cons_zero, List.getD_cons_succ, xIf_true, xIf_false, FA_35_0, FA_35_1, FA_66_0, FA_66_1, FA_66_2, FA_82_0, FA_82_1, FA_82_2, FA_86_0, FA_86_1, LEN_29, LEN_32, LEN_47, LEN_48, LEN_79, LEN_116, xIf_dec]
      refine ⟨fun hlt => ?_, fun hge => ?_⟩
      · have han : a < n := by omega
        refine hB.get (i := 0) rowW hk3 (by omega) fun y hy => ?_
        obtain ⟨ya, yc, rfl, _, _⟩ := hy
        simp only [xP_nil, xP_pick, xP_func, xP_not, xP_add, xP_sub, xP_mul, xP_lss, xP_leq, xP_gtr, xP_geq, xP_max2, xP_min2, xR_eql, xR_neq, Nat.zero_add, Nat.add_zero, Nat.reduceAdd, List.getD_cons_zero, List.getD_cons_succ, xIf_true, xIf_false, FA_35_0, FA_35_1, FA_66_0, FA_66_1, FA_66_2, FA_82_0, FA_82_1, FA_82_2, FA_86_0, FA_86_1, LEN_29, LEN_32, LEN_47, LEN_48, LEN_79, LEN_116]
        have hls : (B.getD 0 []).length = len0 B := rfl
        rw [hls]
        generalize len0 B = s at *
        refine makeB hs fun w4 ho4 hk4 hz4 => ?_
        refine xE_call CF_37 (row_ok h1 h2 h3 han) ?_
        rintro _ w5 ⟨rfl, hrow, hk5⟩
        have hk35 := hk4.then hk5 (by simp)
        have hk05 := hk3.then hk35 (by simp)
        have hz3 := hk3.size
        have hz5 := hk5.size
        have hGlt := ho3.own.lt
        have hrlt : ∀ r ∈ rs, ∀ g ∈ r.F, g < w3.heap.size := fun r hr => (ho3.ok r hr).lt
        have ho5 := ho3.kept0 hk35
        have hp5 := ho4.kept hk5 (by simp)
        generalize hgp : w3.heap.size = gp at *
        generalize hgr : w4.heap.size = gr at *
        refine mixLoops (r := crow k a) (B := B) (s := s) (g := gp) (fun w' hk => Own.slT (sz := 1) (l := crow k a) (by rw [crow_len]; exact hrow.kept hk (by simp; omega)) encB_len (by omega)) (fun w' hk => hB.kept0 (hk05.then hk (fun g hg => by simp at hg; subst hg; exact .inr (by omega)))) (by rw [crow_len]; omega) hl hrows hs hp5 fun w6 hp6 hk6 => ?_
        have ho6 := ho5.kept hk6 (fun x hx hm => by simp at hm; have := hGlt x hx; omega) (fun r hr x hx hm => by simp at hm; have := hrlt r hr x hx; omega)
        rw [crow_len, ← hBk, mixU_all] at hp6
        have hk06 := hk05.then hk6 (fun g hg => by simp at hg; subst hg; exact .inr (by omega))
        have hz6 := hk6.size
        refine xE_one EL_29 rfl fun w7 hat hk7 hz7 => ?_
        have hml : (mixP (crow B.length a) B s).length = s := mixP_len _ _ _
        have hrok : Rq.Ok 5 w7 ⟨.slice (some ⟨gp, 0, none⟩) s s, [gp], mixP (crow B.length a) B s⟩ := by
          have := hp6.kept hk7 (by simp)
          unfold Rq.Ok
          rw [hml]
          exact this
        have hrl : rs.length = a := by have := congrArg List.length hrx; rwa [List.length_map, encP_len] at this
        refine (ho6.kept0 hk7).app (r := ⟨.slice (some ⟨gp, 0, none⟩) s s, [gp], mixP (crow B.length a) B s⟩) EL_29 hrok (fun x hx => ?_) hat (by omega) (by omega) (by omega) fun u w8 G' ho8 hk8 hG' => ?_
        · simp at hx
          subst hx
          exact ⟨by omega, fun hm => by have := hGlt x hm; omega, fun q hq hm => by have := hrlt q hq x hm; omega⟩
        · try simp only [xP_nil, xP_pick, xP_func, xP_not, xP_add, xP_sub, xP_mul, xP_lss, xP_leq, xP_gtr, xP_geq, xP_max2, xP_min2, xR_eql, xR_neq, Nat.zero_add, Nat.add_zero, Nat.reduceAdd, List.getD_cons_zero, List.getD_cons_succ, xIf_true, xIf_false, FA_35_0, FA_35_1, FA_66_0, FA_66_1, FA_66_2, FA_82_0, FA_82_1, FA_82_2, FA_86_0, FA_86_1, LEN_29, LEN_32, LEN_47, LEN_48, LEN_79, LEN_116]
          rw [wrap64 (by omega) (by omega)]
          refine ⟨⟨a + 1, u, rs ++ [_], G', rfl, by omega, ho8, ?_, (hk06.then hk7 (by simp)).then hk8 (fun x hx => .inr (ho3.fresh x hx))⟩, by omega⟩
          rw [List.map_append, hrx]
          unfold encP
          rw [List.range_succ, List.map_append]
          simp [hBk]
      · obtain rfl : n = a := by omega
        refine ⟨hk3, ?_⟩
        rw [hbf]
        exact ⟨o, rfl, by rw [← hrx]; exact ho3.rows⟩
theorem ctells_ok {k n : Int} {l : List (List UInt8)} {v : Value} {w : World} (hg : Glob w) (hl : RowsT w v l) :
    Gives Tryd.prog 4 #[.int .i64 k, .int .i64 n, v] w fun u w' => u = .bool true ∧ Kept [] w w' := by
  refine C_stavelaw4_CodeTells ?_
  unfold S_stavelaw4_CodeTells
  obtain ⟨va, vc, hve⟩ := hl.sl
  refine xLoop_of (fun ls w' => ∃ (i : Nat) (o : Value) (rs : List Rq) (G : List Nat), ls = [o, .int .i64 i] ∧ i ≤ 9 ∧ i ≤ l.length ∧ Out 32 5 w w' o rs G ∧ rs.map Rq.x = (l.take i).map (·.take 20) ∧ Kept [] w w') (fun ls _ => match ls with | [_, .int _ i] => 9 - i.toNat | _ => 0) ⟨0, _, [], [], rfl, by omega, by omega, out_nil _ _, rfl, Kept.refl _ _⟩ ?_
  rintro _ _ w1 ⟨i, o, rs, G, rfl, hi9, hil, ho1, hrx, hk1⟩
  have hrl : rs.length = i := by have := congrArg List.length hrx; rw [List.length_map, List.length_map, List.length_take] at this; omega
  simp only [List.getD_cons_zero, List.getD_cons_succ]
  rw [hve]
  refine xTest2 SL_29 (fun h1 h2 _ => ?_) (fun _ _ => ?_)
  · rw [← hve]
    simp only [List.getD_cons_zero, xIf_true]
    have hd1 := hk1.then (kept_drew [] w1) (by simp)
    refine hl.getA rowW ONE_32 hd1 h1 fun A u hu hA => ?_
    refine hl.getA rowW ONE_32 hd1 h1 fun A' u' hu' hA' => ?_
    have hx : l.getD i [] = l[i] := getD_lt h1
    rw [hx] at hu hu'
    have hu0 := hu
    obtain ⟨ua, uc, rfl, huc, _⟩ := hu
    obtain ⟨ua', uc', rfl, _, _⟩ := hu'
    refine (xP_len SL_32).2 ?_
    refine xP_min2.2 ?_
    have hmin : (min ((l[i].length : Nat) : Int) 20).toNat ≤ l[i].length := by omega
    refine (xP_upto SL_32 SZ_5 (by omega) (by omega)).2 ?_
    have hsub := SlT.upto encB_len hu0 hmin
    have het : l[i].take (min ((l[i].length : Nat) : Int) 20).toNat = l[i].take 20 := by
      rcases Nat.le_total l[i].length 20 with h | h
      · rw [List.take_of_length_le (by omega), List.take_of_length_le h]
      · rw [show (min ((l[i].length : Nat) : Int) 20).toNat = 20 by omega]
    rw [het] at hsub
    refine xE_slice0 EL_32 fun w2 ho2 hk2 hz2 => ?_
    have hk02 := hd1.then hk2 (by simp)
    refine (still1 ONE_32 (hA' w2 hk02)).2 ?_
    refine (still1 ONE_32 (hA w2 hk02)).2 ?_
    have hlen : (l[i].take 20).length ≤ 20 := by rw [List.length_take]; omega
    refine xE_appendSrc EL_32 ho2 (Src.ofSlT (sliceB_spec SL_32) (hsub.kept0 hk02) encB_len encB_one8) (by rw [Nat.zero_add]; omega) (by rw [Nat.zero_add]; unfold maxLen; omega) fun y w3 F3 ho3 hk3 hF3 hy1 => ?_
    rw [Nat.zero_add, List.nil_append] at ho3
    have hzd : w1.drew.heap.size = w1.heap.size := rfl
    have hF1 : ∀ g ∈ F3, w1.heap.size ≤ g := fun g hg => (hF3 g hg).elim (fun h => by simp at h; omega) (fun h => by omega)
    have hk13 : Kept [] w1 w3 := ((kept_drew [] w1).then hk2 (by simp)).then hk3 (fun g hg => by simp at hg; exact .inr (by omega))
    have hz1 := hk1.size
    have hGlt := ho1.own.lt
    have hrlt : ∀ r ∈ rs, ∀ g ∈ r.F, g < w1.heap.size := fun r hr => (ho1.ok r hr).lt
    refine xE_one EL_29 hy1 fun w4 hat hk4 hz4 => ?_
    have hrok : Rq.Ok 5 w4 ⟨y, F3, l[i].take 20⟩ := ho3.kept hk4 (by simp)
    refine ((ho1.kept0 hk13).kept0 hk4).app (r := ⟨y, F3, l[i].take 20⟩) EL_29 hrok (fun x hx => ?_) hat (by omega) (by omega) (by have := hk13.size; omega) fun o' w5 G' ho5 hk5 hG' => ?_
    · have := hF1 x hx
      exact ⟨by omega, fun hm => by have := hGlt x hm; omega, fun q hq hm => by have := hrlt q hq x hm; omega⟩
    · simp only [xP_nil, xP_pick, xP_func, xP_not, xP_add, xP_sub, xP_mul, xP_lss, xP_leq, xP_gtr, xP_geq, xP_max2, xP_min2, xR_eql, xR_neq, Nat.zero_add, Nat.add_zero, Nat.reduceAdd, List.getD_cons_zero, List.getD_cons_succ, xIf_true, xIf_false, FA_35_0, FA_35_1, FA_66_0, FA_66_1, FA_66_2, FA_82_0, FA_82_1, FA_82_2, FA_86_0, FA_86_1, LEN_29, LEN_32, LEN_47, LEN_48, LEN_79, LEN_116]
      rw [wrap64 (by omega) (by omega)]
      refine ⟨⟨i + 1, o', rs ++ [_], G', rfl, by omega, by omega, ho5, ?_, ((hk1.then hk13 (by simp)).then hk4 (by simp)).then hk5 (fun x hx => .inr (ho1.fresh x hx))⟩, by omega⟩
      have e : l.take (i + 1) = l.take i ++ [l[i]] := by rw [List.take_add_one, List.getElem?_eq_getElem h1]; rfl
      rw [List.map_append, hrx, e, List.map_append]
      rfl
  · rw [← hve]
    simp only [List.getD_cons_zero, xIf_false]
    have hR1 : RowsT w1 o (rs.map Rq.x) := ho1.rows
    have hC : (rs.map Rq.x).length ≤ 9 := by rw [List.length_map]; omega
    have hall : ∀ b ∈ rs.map Rq.x, b.length ≤ 20 := fun b hb => by
      rw [hrx] at hb
      obtain ⟨x, _, rfl⟩ := List.mem_map.1 hb
      rw [List.length_take]
      omega
    generalize rs.map Rq.x = C at *
    have hCs : len0 C ≤ 20 := by
      unfold len0
      by_cases h0 : 0 < C.length
      · rw [getD_lt h0]
        exact hall _ (List.getElem_mem h0)
      · have h00 : C = [] := List.eq_nil_of_length_eq_zero (by omega)
        rw [h00]
        exact Nat.zero_le _
    by_cases hgd : goodKN k n
    · have hgd' := hgd
      unfold goodKN at hgd'
      obtain ⟨kk, rfl⟩ := Int.eq_ofNat_of_zero_le (show 0 ≤ k by omega)
      obtain ⟨nn, rfl⟩ := Int.eq_ofNat_of_zero_le (show 0 ≤ n by omega)
      refine newS (by omega) (by omega) (by omega) fun p f cv w2 hC2 hk2 => ?_
      simp only [xP_ex0, xP_ex1]
      have hk02 := hk1.then hk2 (by simp)
      refine xJoin_of (fun ls w' => ls = [.bool false] ∧ w2 = w') ?_ ?_
      · refine (xR_pneq PTC).2 ?_
        simp only [Option.isNone_some, Bool.not_false, xP_nil, xP_pick, xP_func, xP_not, xP_add, xP_sub, xP_mul, xP_lss, xP_leq, xP_gtr, xP_geq, xP_max2, xP_min2, xR_eql, xR_neq, Nat.zero_add, Nat.add_zero, Nat.reduceAdd, List.getD_cons_zero, List.getD_cons_succ, xIf_true, xIf_false, FA_35_0, FA_35_1, FA_66_0, FA_66_1, FA_66_2, FA_82_0, FA_82_1, FA_82_2, FA_86_0, FA_86_1, LEN_29, LEN_32, LEN_47, LEN_48, LEN_79, LEN_116, xIf_dec]
        refine ⟨fun _ => ⟨fun _ => ?_, fun h => by omega⟩, fun h => by omega⟩
        rw [decide_eq_true (show (nn : Int) ≤ 8 by omega)]
        refine (xR_neqBool BLB).2 ?_
        simp only [beq_self_eq_true, Bool.not_true, xIf_false]
        refine (xR_eqlN IFE).2 ?_
        refine (xR_pneq PTC).2 ?_
        simp only [Option.isNone_some, Bool.not_false]
        refine (xR_neqBool BLB).2 ?_
        simp only [beq_self_eq_true, Bool.not_true, xIf_false]
        refine (xR_neqN IFE).2 ?_
        simp only [xIf_false]
        exact ⟨by trivial, by trivial⟩
      rintro _ _ _ ⟨rfl, rfl⟩
      simp only [List.getD_cons_zero, xIf_false]
      refine (xR_pnil PTC).2 ?_
      simp only [Option.isNone_some, xIf_false]
      have hR2 := hR1.kept0 hk2
      refine xE_call CF_14 (encode_ok hC2 hR2 (by omega) (by omega)) ?_
      rintro eu w3 ⟨hk3, hres⟩
      have hk03 := hk02.then hk3 (by simp)
      have hR3 := hR2.kept0 hk3
      have hgB : ∀ b ∈ encP kk nn C (len0 C), b.length ≤ 1000000 := fun b hb => by rw [encP_rows b hb]; omega
      cases hbb : badB kk C with
      | true =>
        rw [hbb] at hres
        simp only at hres
        subst hres
        simp only [xP_ex0, xP_ex1]
        refine xE_call CF_19 (renc_ok (by omega) (by omega) (by omega) hR3 (by omega) (by omega)) ?_
        rintro ru w4 ⟨hk4, hres4⟩
        rw [hbb] at hres4
        simp only at hres4
        subst hres4
        simp only [xP_ex0, xP_ex1]
        have hk04 := hk03.then hk4 (by simp)
        refine sameS (A := []) (B := []) (RowsT.nil _) (RowsT.nil _) (by simp) (by simp) fun w5 hk5 => ?_
        have hk05 := hk04.then hk5 (by simp)
        simp only [decide_true, xIf_true]
        refine kindR trivial (hg.kept0 hk05) fun w6 hk6 => ?_
        simp only [Er.kind, xR_eql, decide_true, xIf_true]
        exact cRunsG hg (hk05.then hk6 (by simp))
      | false =>
        rw [hbb] at hres
        simp only at hres
        obtain ⟨y, rs', G', rfl, hyo, hyx⟩ := hres
        simp only [xP_ex0, xP_ex1]
        refine xE_call CF_19 (renc_ok (by omega) (by omega) (by omega) hR3 (by omega) (by omega)) ?_
        rintro ru w4 ⟨hk4, hres4⟩
        rw [hbb] at hres4
        simp only at hres4
        obtain ⟨z, rfl, hz⟩ := hres4
        simp only [xP_ex0, xP_ex1]
        have hk04 := hk03.then hk4 (by simp)
        have hyr := hyo.rows
        rw [hyx] at hyr
        refine sameS (hyr.kept0 hk4) hz (by rw [encP_len]; omega) hgB fun w5 hk5 => ?_
        have hk05 := hk04.then hk5 (by simp)
        simp only [decide_true, xIf_true]
        refine xE_call CF_13 kindNil_ok ?_
        rintro _ w6 ⟨rfl, hk6⟩
        simp only [xR_eql, decide_true, xIf_true]
        exact cRunsG hg (hk05.then hk6 (by simp))
    · refine xE_call CF_12 (new_bad hgd) ?_
      rintro _ _ ⟨rfl, rfl⟩
      simp only [xP_ex0, xP_ex1]
      refine xJoin_of (fun ls w' => ls = [.bool false] ∧ Kept [] w w') ?_ ?_
      · have tail : ∀ b0 b : Bool, b0 = false → b = false → xR Tryd.prog (sEq .neq 4 false (.bool b0) (.bool b)) w1 fun v60 => xIf v60 ((fun ls w' => ls = [Value.bool false] ∧ Kept [] w w') [Value.bool true] w1)
            (xR Tryd.prog (sEq .eql 24 true (erV (.flt opCN 0 (.no 1))) .nilIface) w1 fun v63 => xR Tryd.prog (sEq .neq 22 true (.pointer none) (.pointer none)) w1 fun v65 => xR Tryd.prog (sEq .neq 4 false v63 v65) w1 fun v66 =>
              xIf v66 ((fun ls w' => ls = [Value.bool false] ∧ Kept [] w w') [Value.bool true] w1)
              (xR Tryd.prog (sEq .neq 24 true (erV (.flt opCN 0 (.no 1))) .nilIface) w1 fun v70 => xIf v70 (xE Tryd.prog (sCall 13 #[erV (.flt opCN 0 (.no 1))]) w1 fun v73 w43 => xR Tryd.prog (sEq .neq 27 true v73 (.int .i64 1)) w43 fun v74 => (fun ls w' => ls = [Value.bool false] ∧ Kept [] w w') [v74] w43) ((fun ls w' => ls = [Value.bool false] ∧ Kept [] w w') [Value.bool false] w1))) := by
          rintro _ _ rfl rfl
          refine (xR_neqBool BLB).2 ?_
          simp only [beq_self_eq_true, Bool.not_true, xIf_false]
          refine erV_eql.2 ?_
          refine (xR_pneq PTC).2 ?_
          simp only [Option.isNone_none, Bool.not_true]
          refine (xR_neqBool BLB).2 ?_
          simp only [beq_self_eq_true, Bool.not_true, xIf_false]
          refine erV_neq.2 ?_
          simp only [xIf_true]
          refine kindR trivial (hg.kept0 hk1) fun w2 hk2 => ?_
          refine xR_neq.2 ?_
          simp only [Er.kind, ne_eq, not_true_eq_false, decide_false]
          exact ⟨by trivial, hk1.then hk2 (by simp)⟩
        refine (xR_pneq PTC).2 ?_
        unfold goodKN at hgd
        refine xP_geq.2 ?_
        rw [xIf_dec]
        refine ⟨fun hk1' => ?_, fun _ => tail _ _ rfl rfl⟩
        refine xP_leq.2 ?_
        rw [xIf_dec]
        refine ⟨fun hkn => ?_, fun _ => tail _ _ rfl rfl⟩
        refine xP_leq.2 ?_
        exact tail _ _ rfl (decide_eq_false (by omega))
      rintro _ _ w2 ⟨rfl, hk2⟩
      simp only [List.getD_cons_zero, xIf_false]
      refine (xR_pnil PTC).2 ?_
      simp only [Option.isNone_none, xIf_true]
      exact cRunsG hg hk2
end Go.Proofs.YtoanmeohlpdjfaaDoor
