import Derived.Test.YtoanmeohlpdjfaaDoorXcCodeL
namespace Go.Proofs.YtoanmeohlpdjfaaDoor
set_option linter.unusedSimpArgs false
set_option linter.unusedVariables false
set_option maxRecDepth 100000
attribute [local irreducible] Go.X.xE
open Go Go.X Go.RowKit

theorem Out.sg {w0 w : World} {v : Value} {rs : List Rq} {G : List Nat} {K : Nat} (h : Out 32 5 w0 w v rs G) (hl : rs.length = K) (hK : 0 < K) : ∃ g1, Sg w0 w v K (fun i => rs.getD i dRq) g1 := by
  have o1 := h.own
  obtain ⟨g1, _, _, _, rfl⟩ := o1.ex (by omega)
  rw [map_rangeD Rq.v dRq, hl] at o1
  have m1 : ∀ i, i < K → rs.getD i dRq ∈ rs := fun i hi => by rw [getD_lt (by omega)]; exact List.getElem_mem _
  exact ⟨g1, o1, fun i hi => h.ok _ (m1 i hi), h.fresh g1 (by simp), fun i hi g hg => ⟨(h.rf _ (m1 i hi) g hg).1, fun e => (h.rf _ (m1 i hi) g hg).2 (by simp [e])⟩, fun i hi j hj hij => nd_apart h.nd i j (by omega) (by omega) hij⟩
def idr (n t : Nat) : List UInt8 := (List.replicate n 0).set t 1
theorem idr_len (n t : Nat) : (idr n t).length = n := by simp [idr]
theorem idr_get {n t j : Nat} (hj : j < n) : (idr n t).getD j 0 = if t = j then 1 else 0 := by
  unfold idr
  rw [List.getD_eq_getElem?_getD, List.getElem?_set, List.length_replicate]
  by_cases h : t = j
  · subst h
    rw [if_pos rfl, if_pos hj, if_pos rfl]; rfl
  · rw [if_neg h, if_neg h, List.getElem?_replicate, if_pos hj]; rfl
def invR (n : Nat) (M : List (List UInt8)) : Nat → Rpr := fun t => (M.getD t [], idr n t)
/-- What stands ahead of a round. -/
structure Rnd (w w' : World) (v : Value) (K : Nat) (R0 : Nat → Rpr) (col : Nat) : Prop where
  st : ∃ q g1 R, Sg w w' v K q g1 ∧ (∀ t, t < K → (q t).x = (R t).1 ++ (R t).2) ∧ Gs K K R ∧ Ker K R ∧ Uni K col R ∧ ∀ X, Sol K K X R → Sol K K X R0
  kept : Kept [] w w'
def elimq (q : Nat → Rq) (c n : Nat) : Nat → Rq := fun t => if t = c ∨ n ≤ t then q t else ⟨(q t).v, (q t).F, mulAdd (q t).x (q c).x ((q t).x.getD c 0)⟩
theorem elimq_zero (q : Nat → Rq) (c : Nat) : elimq q c 0 = q := by
  funext t
  unfold elimq
  rw [if_pos (.inr (by omega))]
theorem elimq_at (q : Nat → Rq) (c n : Nat) : elimq q c n c = q c := by unfold elimq; rw [if_pos (.inl rfl)]
theorem elimq_from (q : Nat → Rq) {c n t : Nat} (h : n ≤ t) : elimq q c n t = q t := by unfold elimq; rw [if_pos (.inr h)]
theorem elimq_upd {q : Nat → Rq} {c n : Nat} (hn : n ≠ c) : elimq q c (n + 1) = updq (elimq q c n) n (mulAdd (q n).x (q c).x ((q n).x.getD c 0)) := by
  funext t
  unfold updq
  rw [elimq_from q (Nat.le_refl n)]
  by_cases e : t = n
  · subst e
    rw [if_pos rfl]
    unfold elimq
    rw [if_neg (by omega)]
  · rw [if_neg e]
    unfold elimq
    by_cases h1 : t = c ∨ n ≤ t
    · rw [if_pos h1, if_pos (by omega)]
    · rw [if_neg h1, if_neg (by omega)]
theorem elimq_skip {q : Nat → Rq} {c n : Nat} (h : n = c ∨ ((q n).x.length = (q c).x.length ∧ (q n).x.getD c 0 = 0)) : elimq q c (n + 1) = elimq q c n := by
  funext t
  unfold elimq
  by_cases e : t = n
  · subst e
    rw [if_pos (show t = c ∨ t ≤ t from .inr (Nat.le_refl _))]
    rcases h with h | ⟨h1, h3⟩
    · rw [if_pos (.inl h)]
    · by_cases hc : t = c
      · rw [if_pos (.inl hc)]
      · rw [if_neg (by omega), h3, mulAdd_zero h1]
  · by_cases h1 : t = c ∨ n ≤ t
    · rw [if_pos h1, if_pos (by omega)]
    · rw [if_neg h1, if_neg (by omega)]
theorem invert_ok {n : Nat} {v : Value} {M : List (List UInt8)} {w : World} (hM : RowsT w v M) (hl : M.length = n) (h1 : 1 ≤ n) (h8 : n ≤ 8) (hs : ∀ r ∈ M, r.length = n) (hker : Ker n (invR n M)) :
    Gives Tryd.prog 38 #[v] w fun u w' => ∃ X : List (List UInt8), X.length = n ∧ (∀ b ∈ X, b.length = n) ∧ RowsT w' u X ∧ Sol n n (fun j => X.getD j []) (invR n M) ∧ Kept [] w w' := by
  refine C_staveref1_Invert ?_
  unfold S_staveref1_Invert
  refine (rowsLen hM).2 ?_
  rw [hl]
  have hgl : ∀ j, j < n → (M.getD j []).length = n := fun j hj => by rw [getD_lt (by omega)]; exact hs _ (List.getElem_mem _)
  refine xLoop_of (fun ls w' => ∃ (i : Nat) (o : Value) (rs : List Rq) (G : List Nat), ls = [o, .int .i64 i] ∧ i ≤ n ∧ Out 32 5 w w' o rs G ∧ rs.map Rq.x = (List.range i).map (fun t => M.getD t [] ++ idr n t) ∧ Kept [] w w') (fun ls _ => match ls with | [_, .int _ i] => n - i.toNat | _ => 0) ⟨0, _, [], [], rfl, by omega, out_nil _ _, rfl, Kept.refl _ _⟩ ?_
  rintro _ _ w1 ⟨i, o, rs, G, rfl, hi, ho1, hrx, hk1⟩
  have hrl : rs.length = i := by have := congrArg List.length hrx; rwa [List.length_map, List.length_map, List.length_range] at this
  simp only [xP_nil, xP_pick, xP_func, xP_not, xP_add, xP_sub, xP_mul, xP_lss, xP_leq, xP_gtr, xP_geq, xP_max2, xP_min2, xR_eql, xR_neq, Nat.zero_add, Nat.add_zero, Nat.reduceAdd, List.getD_cons_zero, List.getD_cons_succ, xIf_true, xIf_false, FA_35_0, FA_35_1, FA_66_0, FA_66_1, FA_66_2, FA_82_0, FA_82_1, FA_82_2, FA_86_0, FA_86_1, LEN_29, LEN_32, LEN_47, LEN_48, LEN_79, LEN_116, xIf_dec]
  refine ⟨fun hlt => ?_, fun hge => ?_⟩
  · have hin : i < n := by omega
    refine xE_slice0 EL_32 fun w2 ho2 hk2 hz2 => ?_
    have hk02 := hk1.then hk2 (by simp)
    refine hM.get rowW hk02 (by omega) fun u hu => ?_
    have hul := hgl i hin
    refine xE_appendSrc EL_32 ho2 (Src.ofSlT (sliceB_spec SL_32) (hu.kept0 hk02) encB_len encB_one8) (by rw [Nat.zero_add]; omega) (by rw [Nat.zero_add]; unfold maxLen; omega) fun y w3 F3 ho3 hk3 hF3 hy1 => ?_
    rw [Nat.zero_add, List.nil_append, hul] at ho3
    refine xE_appendZ (z0 := .int .u8 0) (kn := .i64) EL_32 rfl rfl (by kernel_rfl) ho3 (by omega) (by omega) (by omega) (by omega) fun y4 w4 F4 ho4 hk4 hF4 hy4 => ?_
    have hz1 := hk1.size
    have hF3' : ∀ g ∈ F3, w1.heap.size ≤ g := fun g hg => (hF3 g hg).elim (fun h => by simp at h; omega) (fun h => by omega)
    have hz3 := hk3.size
    have hF4' : ∀ g ∈ F4, w1.heap.size ≤ g := fun g hg => (hF4 g hg).elim (hF3' g) (fun h => by omega)
    have hk14 : Kept [] w1 w4 := (hk2.then hk3 (fun g hg => by simp at hg; exact .inr (by omega))).then hk4 (fun g hg => .inr (hF3' g hg))
    have ho4 : Own w4 5 1 y4 (n + n) ((M.getD i [] ++ List.replicate n 0).flatMap encB) F4 := by
      rw [List.flatMap_append, zeros8]
      exact ho4
    obtain ⟨g4, o4, c4, rfl, hFe⟩ := ho4.ex (by omega)
    rw [show ((n : Int) + (i : Nat)) = ((n + i : Nat) : Int) by omega, wrap64 (by omega) (by omega)]
    refine (xP_IAn SL_32 SZ_5 (show n + i < n + n by omega)).2 ?_
    rw [Nat.mul_one]
    refine xE_storeOwn (u := .int .u8 (1 : UInt8).toNat) SZ_5 ho4 (i := n + i) (by rw [flat_len encB_len, List.length_append, hul, List.length_replicate]; omega) rfl fun w5 ho5 hk5 hz5 => ?_
    have eset : (M.getD i [] ++ List.replicate n 0).set (n + i) 1 = M.getD i [] ++ idr n i := by
      rw [List.set_append_right _ _ (by omega), hul, Nat.add_sub_cancel_left]
      rfl
    rw [flip_set8, eset] at ho5
    have hk15 : Kept [] w1 w5 := hk14.then hk5 (fun g hg => .inr (hF4' g hg))
    have hGlt := ho1.own.lt
    have hrlt : ∀ r ∈ rs, ∀ g ∈ r.F, g < w1.heap.size := fun r hr => (ho1.ok r hr).lt
    refine xE_one EL_29 rfl fun w6 hat hk6 hz6 => ?_
    have hxl : (M.getD i [] ++ idr n i).length = n + n := by rw [List.length_append, hul, idr_len]
    have hrok : Rq.Ok 5 w6 ⟨.slice (some ⟨g4, o4, none⟩) (n + n) c4, F4, M.getD i [] ++ idr n i⟩ := by
      have := ho5.kept hk6 (by simp)
      unfold Rq.Ok
      rw [hxl]
      exact this
    refine ((ho1.kept0 hk15).kept0 hk6).app (r := ⟨.slice (some ⟨g4, o4, none⟩) (n + n) c4, F4, M.getD i [] ++ idr n i⟩) EL_29 hrok (fun x hx => ?_) hat (by omega) (by omega) (by have := hk15.size; omega) fun o' w7 G' ho7 hk7 hG' => ?_
    · have := hF4' x hx
      exact ⟨by omega, fun hm => by have := hGlt x hm; omega, fun q hq hm => by have := hrlt q hq x hm; omega⟩
    · try simp only [xP_nil, xP_pick, xP_func, xP_not, xP_add, xP_sub, xP_mul, xP_lss, xP_leq, xP_gtr, xP_geq, xP_max2, xP_min2, xR_eql, xR_neq, Nat.zero_add, Nat.add_zero, Nat.reduceAdd, List.getD_cons_zero, List.getD_cons_succ, xIf_true, xIf_false, FA_35_0, FA_35_1, FA_66_0, FA_66_1, FA_66_2, FA_82_0, FA_82_1, FA_82_2, FA_86_0, FA_86_1, LEN_29, LEN_32, LEN_47, LEN_48, LEN_79, LEN_116]
      rw [wrap64 (by omega) (by omega)]
      refine ⟨⟨i + 1, o', rs ++ [_], G', rfl, by omega, ho7, ?_, ((hk1.then hk15 (by simp)).then hk6 (by simp)).then hk7 (fun x hx => .inr (ho1.fresh x hx))⟩, by omega⟩
      rw [List.map_append, hrx, List.range_succ, List.map_append]
      rfl
  · obtain rfl : n = i := by omega
    obtain ⟨g1, hSg⟩ := Out.sg ho1 hrl (by omega)
    have hx0 : ∀ t, t < n → (rs.getD t dRq).x = (invR n M t).1 ++ (invR n M t).2 := fun t ht => by
      have := congrArg (fun l : List (List UInt8) => l[t]?) hrx
      simp only [List.getElem?_map] at this
      rw [List.getElem?_eq_getElem (by omega), List.getElem?_range ht] at this
      simp only [Option.map_some, Option.some.injEq] at this
      rw [getD_lt (by omega)]
      exact this
    have hgs0 : Gs n n (invR n M) := ⟨fun t ht => hgl t ht, fun t ht => idr_len _ _⟩
    have hrd : Rnd w w1 o n (invR n M) 0 := ⟨⟨_, g1, invR n M, hSg, hx0, hgs0, hker, fun t _ j hj => by omega, fun X h => h⟩, hk1⟩
    clear hSg hx0 ho1 hrx
    refine xLoop_of (fun ls w' => ∃ col : Nat, ls = [.int .i64 col] ∧ col ≤ n ∧ Rnd w w' o n (invR n M) col) (fun ls _ => match ls with | [.int _ i] => n - i.toNat | _ => 0) ⟨0, rfl, by omega, hrd⟩ ?_
    clear hrd
    rintro _ _ w2 ⟨col, rfl, hcol, ⟨⟨q, g1, R, hSg, hqx, hgs, hkr, huni, hsol⟩, hk2⟩⟩
    simp only [xP_nil, xP_pick, xP_func, xP_not, xP_add, xP_sub, xP_mul, xP_lss, xP_leq, xP_gtr, xP_geq, xP_max2, xP_min2, xR_eql, xR_neq, Nat.zero_add, Nat.add_zero, Nat.reduceAdd, List.getD_cons_zero, List.getD_cons_succ, xIf_true, xIf_false, FA_35_0, FA_35_1, FA_66_0, FA_66_1, FA_66_2, FA_82_0, FA_82_1, FA_82_2, FA_86_0, FA_86_1, LEN_29, LEN_32, LEN_47, LEN_48, LEN_79, LEN_116, xIf_dec]
    have hxl : ∀ t, t < n → (q t).x.length = n + n := fun t ht => by rw [hqx t ht, List.length_append, hgs.l1 t ht, hgs.l2 t ht]
    refine ⟨fun hlt => ?_, fun hge => ?_⟩
    · have hck : col < n := by omega
      have hxg : ∀ t, t < n → (q t).x.getD col 0 = (R t).1.getD col 0 := fun t ht => by rw [hqx t ht, getD_app (by rw [hgs.l1 t ht]; exact hck)]
      obtain ⟨t0, ht0c, ht0k, ht0⟩ := pivot_ex huni hkr hck
      refine xLoop_of (fun ls w' => ∃ pv : Nat, ls = [.int .i64 pv] ∧ col ≤ pv ∧ pv ≤ t0 ∧ (∀ t, col ≤ t → t < pv → (R t).1.getD col 0 = 0) ∧ w2 = w') (fun ls _ => match ls with | [.int _ i] => n - i.toNat | _ => 0) ⟨col, rfl, Nat.le_refl _, ht0c, fun t h1 h2 => by omega, rfl⟩ ?_
      rintro _ _ _ ⟨pv, rfl, hcp, hpt, hz, rfl⟩
      have hpk : pv < n := by omega
      refine xJoin_of (fun ls w' => ls = [.bool (decide ((R pv).1.getD col 0 = 0))] ∧ w2 = w') ?_ ?_
      · simp only [xP_nil, xP_pick, xP_func, xP_not, xP_add, xP_sub, xP_mul, xP_lss, xP_leq, xP_gtr, xP_geq, xP_max2, xP_min2, xR_eql, xR_neq, Nat.zero_add, Nat.add_zero, Nat.reduceAdd, List.getD_cons_zero, List.getD_cons_succ, xIf_true, xIf_false, FA_35_0, FA_35_1, FA_66_0, FA_66_1, FA_66_2, FA_82_0, FA_82_1, FA_82_2, FA_86_0, FA_86_1, LEN_29, LEN_32, LEN_47, LEN_48, LEN_79, LEN_116, xIf_dec]
        refine ⟨fun _ => ?_, fun h => by omega⟩
        refine (ownRow hSg.own hpk).2 ?_
        refine (byteAt (hSg.ok pv hpk).slT (by rw [hxl pv hpk]; omega)).2 ?_
        rw [hxg pv hpk]
        try simp only [xP_nil, xP_pick, xP_func, xP_not, xP_add, xP_sub, xP_mul, xP_lss, xP_leq, xP_gtr, xP_geq, xP_max2, xP_min2, xR_eql, xR_neq, Nat.zero_add, Nat.add_zero, Nat.reduceAdd, List.getD_cons_zero, List.getD_cons_succ, xIf_true, xIf_false, FA_35_0, FA_35_1, FA_66_0, FA_66_1, FA_66_2, FA_82_0, FA_82_1, FA_82_2, FA_86_0, FA_86_1, LEN_29, LEN_32, LEN_47, LEN_48, LEN_79, LEN_116]
        refine ⟨?_, by trivial⟩
        rw [decide_eq_decide.2 (show (((R pv).1.getD col 0).toNat : Int) = 0 ↔ (R pv).1.getD col 0 = 0 from u8_zero)]
      rintro _ _ _ ⟨rfl, rfl⟩
      simp only [List.getD_cons_zero, xIf_dec]
      refine ⟨fun hgo => ?_, fun hne => ?_⟩
      · try simp only [xP_nil, xP_pick, xP_func, xP_not, xP_add, xP_sub, xP_mul, xP_lss, xP_leq, xP_gtr, xP_geq, xP_max2, xP_min2, xR_eql, xR_neq, Nat.zero_add, Nat.add_zero, Nat.reduceAdd, List.getD_cons_zero, List.getD_cons_succ, xIf_true, xIf_false, FA_35_0, FA_35_1, FA_66_0, FA_66_1, FA_66_2, FA_82_0, FA_82_1, FA_82_2, FA_86_0, FA_86_1, LEN_29, LEN_32, LEN_47, LEN_48, LEN_79, LEN_116]
        rw [wrap64 (by omega) (by omega)]
        refine ⟨⟨pv + 1, rfl, by omega, Nat.lt_of_le_of_ne hpt (fun e => ht0 (by rw [← e]; exact hgo)), fun t h1 h2 => ?_, by trivial⟩, by omega⟩
        by_cases h3 : t = pv
        · rw [h3]; exact hgo
        · exact hz t h1 (by omega)
      · try simp only [xP_nil, xP_pick, xP_func, xP_not, xP_add, xP_sub, xP_mul, xP_lss, xP_leq, xP_gtr, xP_geq, xP_max2, xP_min2, xR_eql, xR_neq, Nat.zero_add, Nat.add_zero, Nat.reduceAdd, List.getD_cons_zero, List.getD_cons_succ, xIf_true, xIf_false, FA_35_0, FA_35_1, FA_66_0, FA_66_1, FA_66_2, FA_82_0, FA_82_1, FA_82_2, FA_86_0, FA_86_1, LEN_29, LEN_32, LEN_47, LEN_48, LEN_79, LEN_116]
        rw [decide_eq_false (show ¬ ((pv : Int) = (n : Nat)) by omega)]
        simp only [xIf_false]
        have hSd := hSg.kept0 (kept_drew [] w2)
        refine (ownRow hSd.own hpk).2 ?_
        refine (ownRow hSd.own hck).2 ?_
        refine hSd.swap hck hpk fun w3 h3 hk3 => ?_
        have hk03 : Kept [] w w3 := (hk2.then (kept_drew [] w2) (by simp)).then hk3 (by intro g hg; simp at hg; subst hg; exact .inr hSg.f1)
        have hgs1 := hgs.swp hck hpk
        have hker1 := hkr.swp hck hpk
        have huni1 := huni.swp hck hpk hcp
        have hat1 : swpF R col pv col = R pv := swp_at
        have hi' : ∀ t, t < n → (if t = pv then col else if t = col then pv else t) < n := fun t ht => by split; exact hck; split; exact hpk; exact ht
        have hqx1 : ∀ t, t < n → (swpq q col pv t).x = (swpF R col pv t).1 ++ (swpF R col pv t).2 := fun t ht => hqx _ (hi' t ht)
        have hsol1 : ∀ X, Sol n n X (swpF R col pv) → Sol n n X (invR n M) := fun X hX => hsol X (hX.unswp hck hpk)
        generalize swpq q col pv = q1 at *
        generalize swpF R col pv = R1 at *
        have e1 : (q1 col).x.length = n + n := by rw [hqx1 col hck, List.length_append, hgs1.l1 col hck, hgs1.l2 col hck]
        have e2 : (q1 col).x.getD col 0 = (R pv).1.getD col 0 := by rw [hqx1 col hck, getD_app (by rw [hgs1.l1 col hck]; exact hck), hat1]
        refine (ownRow h3.own hck).2 ?_
        refine (byteAt (h3.ok col hck).slT (by omega)).2 ?_
        rw [e2]
        refine rinvS ?_
        refine (ownRow h3.own hck).2 ?_
        have hx0 : uinv ((R pv).1.getD col 0) ≠ 0 := uinv_ne hne
        have h1at : (sclF R1 col (uinv ((R pv).1.getD col 0)) col).1.getD col 0 = 1 := by
          rw [scl_at, scl_get, hat1]
          show umul (uinv ((R pv).1.getD col 0)) ((R pv).1.getD col 0) = 1
          rw [umul_comm, umul_inv hne]
        generalize uinv ((R pv).1.getD col 0) = x at *
        refine scaleRow h3 hck (by omega) fun w4 h4 hk4 => ?_
        have hk04 : Kept [] w w4 := hk03.then hk4 (fun g hg => .inr (h3.rf col hck g hg).1)
        have hqx2 : ∀ t, t < n → (updq q1 col (scl (q1 col).x x) t).x = (sclF R1 col x t).1 ++ (sclF R1 col x t).2 := fun t ht => by
          by_cases e : t = col
          · subst e
            rw [updq_at, scl_at, hqx1 t ht, scl_app]
          · rw [updq_else e, scl_else e, hqx1 t ht]
        have hgs2 : Gs n n (sclF R1 col x) := hgs1.scl
        have hker2 : Ker n (sclF R1 col x) := hker1.scl hx0
        have huni2 : Uni n col (sclF R1 col x) := huni1.scl
        have hsol2 : ∀ X, Sol n n X (sclF R1 col x) → Sol n n X (invR n M) := fun X hX => hsol1 X (hX.unscl hx0)
        generalize updq q1 col (scl (q1 col).x x) = q2 at *
        generalize sclF R1 col x = R2 at *
        have hxl2 : ∀ t, t < n → (q2 t).x.length = n + n := fun t ht => by rw [hqx2 t ht, List.length_append, hgs2.l1 t ht, hgs2.l2 t ht]
        refine xLoop_of (fun ls w' => ∃ i : Nat, ls = [.int .i64 i] ∧ i ≤ n ∧ Sg w w' o n (elimq q2 col i) g1 ∧ Kept [] w w') (fun ls _ => match ls with | [.int _ i] => n - i.toNat | _ => 0) ⟨0, rfl, by omega, by rw [elimq_zero]; exact h4, hk04⟩ ?_
        rintro _ _ w5 ⟨i, rfl, hi, h5, hk5⟩
        simp only [xP_nil, xP_pick, xP_func, xP_not, xP_add, xP_sub, xP_mul, xP_lss, xP_leq, xP_gtr, xP_geq, xP_max2, xP_min2, xR_eql, xR_neq, Nat.zero_add, Nat.add_zero, Nat.reduceAdd, List.getD_cons_zero, List.getD_cons_succ, xIf_true, xIf_false, FA_35_0, FA_35_1, FA_66_0, FA_66_1, FA_66_2, FA_82_0, FA_82_1, FA_82_2, FA_86_0, FA_86_1, LEN_29, LEN_32, LEN_47, LEN_48, LEN_79, LEN_116, xIf_dec]
        refine ⟨fun hli => ?_, fun hgi => ?_⟩
        · have hik : i < n := by omega
          have hqi : elimq q2 col i i = q2 i := elimq_from _ (Nat.le_refl _)
          have hqc : elimq q2 col i col = q2 col := elimq_at _ _ _
          refine xJoin_of (fun ls w' => ls = [] ∧ Sg w w' o n (elimq q2 col (i + 1)) g1 ∧ Kept [] w w') ?_ ?_
          · refine (ownRow h5.own hik).2 ?_
            refine (byteAt (h5.ok i hik).slT (by rw [hqi, hxl2 i hik]; omega)).2 ?_
            rw [hqi]
            refine xJoin_of (fun ls w' => ls = [.bool (decide (i = col ∨ (q2 i).x.getD col 0 = 0))] ∧ w5 = w') ?_ ?_
            · try simp only [xP_nil, xP_pick, xP_func, xP_not, xP_add, xP_sub, xP_mul, xP_lss, xP_leq, xP_gtr, xP_geq, xP_max2, xP_min2, xR_eql, xR_neq, Nat.zero_add, Nat.add_zero, Nat.reduceAdd, List.getD_cons_zero, List.getD_cons_succ, xIf_true, xIf_false, FA_35_0, FA_35_1, FA_66_0, FA_66_1, FA_66_2, FA_82_0, FA_82_1, FA_82_2, FA_86_0, FA_86_1, LEN_29, LEN_32, LEN_47, LEN_48, LEN_79, LEN_116]
              try rw [xIf_dec]
              refine ⟨fun h1 => ⟨by rw [decide_eq_true (.inl (by omega))], by trivial⟩, fun h1 => ⟨?_, by trivial⟩⟩
              rw [decide_eq_decide.2 (show (((q2 i).x.getD col 0).toNat : Int) = 0 ↔ (i = col ∨ (q2 i).x.getD col 0 = 0) from u8_zero.trans ⟨fun e => .inr e, fun e => e.resolve_left (by omega)⟩)]
            rintro _ _ _ ⟨rfl, rfl⟩
            simp only [List.getD_cons_zero, xIf_dec]
            refine ⟨fun hskip => ?_, fun hgo => ?_⟩
            · rw [elimq_skip (hskip.imp id fun e => ⟨by rw [hxl2 i hik, hxl2 col hck], e⟩)]
              exact ⟨by trivial, h5, hk5⟩
            · have hic : i ≠ col := fun e => hgo (.inl e)
              refine (ownRow h5.own hik).2 ?_
              refine elimRow (x := (q2 i).x.getD col 0) h5 hik hck hic (by rw [hqi, hqc, hxl2 i hik, hxl2 col hck]) (by rw [hqi, hxl2 i hik]; omega) fun w6 h6 hk6 => ?_
              have hfr := h5.rf i hik
              rw [hqi, hqc] at h6
              rw [elimq_upd hic]
              exact ⟨by trivial, h6, hk5.then hk6 (fun g hg => .inr (hfr g hg).1)⟩
          rintro _ _ w6 ⟨rfl, h6, hk6⟩
          rw [wrap64 (by omega) (by omega)]
          exact ⟨⟨i + 1, rfl, by omega, h6, hk6⟩, by omega⟩
        · obtain rfl : n = i := by omega
          rw [wrap64 (by omega) (by omega)]
          refine ⟨⟨col + 1, rfl, by omega, ⟨⟨elimq q2 col n, g1, elimF R2 col n, h5, fun t ht => ?_, hgs2.elim hck _, hker2.elim hgs2 hck, huni2.elim hgs2 hck h1at, fun X hX => hsol2 X (hX.unelim hgs2 hck)⟩, hk5⟩⟩, by omega⟩
          by_cases e : t = col
          · subst e
            rw [elimq_at, elim_at]
            exact hqx2 t ht
          · rw [elim_to e ht]
            unfold elimq addP
            rw [if_neg (by omega)]
            simp only
            rw [hqx2 t ht, hqx2 col hck, getD_app (by rw [hgs2.l1 t ht]; exact hck), mulAdd_app (by rw [hgs2.l1 t ht, hgs2.l1 col hck])]
    · obtain rfl : n = col := by omega
      refine xLoop_of (fun ls w' => ∃ (i : Nat) (o' : Value) (ws : List (Value × List UInt8)) (G : List Nat), ls = [o', .int .i64 i] ∧ i ≤ n ∧ OwnW w' o' ws G ∧ (∀ g ∈ G, w2.heap.size ≤ g) ∧ (∀ r ∈ ws, SlT w2 encB r.1 r.2) ∧ ws.map (·.2) = (List.range i).map (fun t => (R t).2) ∧ Kept [] w2 w') (fun ls _ => match ls with | [_, .int _ i] => n - i.toNat | _ => 0) ⟨0, _, [], [], rfl, by omega, own_nil _ _ _, by simp, by simp, rfl, Kept.refl _ _⟩ ?_
      rintro _ _ w3 ⟨i, o', ws, G3, rfl, hi, ho3, hG3, hws, hwx, hk3⟩
      have hwl : ws.length = i := by have := congrArg List.length hwx; rwa [List.length_map, List.length_map, List.length_range] at this
      simp only [xP_nil, xP_pick, xP_func, xP_not, xP_add, xP_sub, xP_mul, xP_lss, xP_leq, xP_gtr, xP_geq, xP_max2, xP_min2, xR_eql, xR_neq, Nat.zero_add, Nat.add_zero, Nat.reduceAdd, List.getD_cons_zero, List.getD_cons_succ, xIf_true, xIf_false, FA_35_0, FA_35_1, FA_66_0, FA_66_1, FA_66_2, FA_82_0, FA_82_1, FA_82_2, FA_86_0, FA_86_1, LEN_29, LEN_32, LEN_47, LEN_48, LEN_79, LEN_116, xIf_dec]
      refine ⟨fun hlt => ?_, fun hge => ?_⟩
      · have hin : i < n := by omega
        refine (ownRow (hSg.kept0 hk3).own hin).2 ?_
        have hsl := (hSg.ok i hin).slT
        have hsl0 := hsl
        obtain ⟨ra, rc, hve, hrc, _⟩ := hsl
        rw [hve] at hsl0 ⊢
        rw [hxl i hin] at hrc ⊢
        refine (xP_from SL_32 SZ_5 (by omega) (by omega)).2 ?_
        have hsub := SlT.sub (i := n) (j := (q i).x.length) encB_len hsl0 (by rw [hxl i hin]; omega) (Nat.le_refl _)
        rw [List.take_of_length_le (by rw [List.length_drop]; exact Nat.le_refl _)] at hsub
        have hdr : (q i).x.drop n = (R i).2 := by rw [hqx i hin, List.drop_append_of_le_length (by rw [hgs.l1 i hin]; exact Nat.le_refl _), List.drop_of_length_le (by rw [hgs.l1 i hin]; exact Nat.le_refl _), List.nil_append]
        rw [hdr, hxl i hin] at hsub
        refine appW (x := (R i).2) ho3 rfl (by omega) fun o2 w4 G4 ho4 hk4 hG4 => ?_
        try simp only [xP_nil, xP_pick, xP_func, xP_not, xP_add, xP_sub, xP_mul, xP_lss, xP_leq, xP_gtr, xP_geq, xP_max2, xP_min2, xR_eql, xR_neq, Nat.zero_add, Nat.add_zero, Nat.reduceAdd, List.getD_cons_zero, List.getD_cons_succ, xIf_true, xIf_false, FA_35_0, FA_35_1, FA_66_0, FA_66_1, FA_66_2, FA_82_0, FA_82_1, FA_82_2, FA_86_0, FA_86_1, LEN_29, LEN_32, LEN_47, LEN_48, LEN_79, LEN_116]
        rw [wrap64 (by omega) (by omega)]
        have hz3 := hk3.size
        refine ⟨⟨i + 1, o2, _, G4, rfl, by omega, ho4, fun g hg => (hG4 g hg).elim (hG3 g) (fun h => by omega), fun r hr => ?_, ?_, hk3.then hk4 (fun g hg => .inr (hG3 g hg))⟩, by omega⟩
        · rcases List.mem_append.1 hr with hr | hr
          · exact hws r hr
          · rw [List.mem_singleton] at hr
            subst hr
            exact hsub
        · rw [List.map_append, hwx, List.range_succ, List.map_append]
          rfl
      · obtain rfl : n = i := by omega
        refine ⟨(List.range n).map fun t => (R t).2, by simp, fun b hb => ?_, ?_, hsol _ ?_, hk2.then hk3 (by simp)⟩
        · obtain ⟨t, ht, rfl⟩ := List.mem_map.1 hb
          exact hgs.l2 t (List.mem_range.1 ht)
        · rw [← hwx]
          exact OwnW.rows ho3 fun r hr => (hws r hr).kept0 hk3
        · have := huni.sol (s := n)
          intro t ht y hy
          rw [this t ht y hy]
          refine lin_congr fun j hj => ?_
          show (R j).2.getD y 0 = (((List.range n).map fun i => (R i).2).getD j []).getD y 0
          rw [getD_lt (l := (List.range n).map fun i => (R i).2) (by simpa using hj), List.getElem_map, List.getElem_range]
end Go.Proofs.YtoanmeohlpdjfaaDoor
