import Derived.Test.YtoanmeohlpdjfaaDoorXcCodeB
namespace Go.Proofs.YtoanmeohlpdjfaaDoor
set_option linter.unusedSimpArgs false
set_option linter.unusedVariables false
set_option maxRecDepth 100000
attribute [local irreducible] Go.X.xE
open Go Go.X Go.RowKit

/-! ## Blocks made of bytes -/
theorem withinN {n lo hi : Int} {w : World} {K : Value → World → Prop} (h0 : 0 ≤ lo) (h1 : lo ≤ hi) (h2 : hi ≤ 1000000) (k : ∀ m : Nat, lo ≤ m → (m : Int) ≤ hi → K (.int .i64 m) w) : xE Tryd.prog (sCall 20 #[.int .i64 n, .int .i64 lo, .int .i64 hi]) w K := by
  refine xE_call CF_20 (within_ok (by omega) h1 (by omega)) ?_
  rintro _ _ ⟨rfl, rfl⟩
  obtain ⟨b1, b2⟩ := within_bd (n := n) h1
  obtain ⟨m, hm⟩ := Int.eq_ofNat_of_zero_le (show 0 ≤ within n lo hi by omega)
  rw [hm]
  exact k m (by omega) (by omega)
theorem newS {k n : Nat} {w : World} {K : Value → World → Prop} (h1 : 1 ≤ k) (h2 : k ≤ n) (h3 : n ≤ 8) (kk : ∀ p f v w', CodeIs w' p k n f v → Kept [] w w' → K (.tuple #[.pointer (some ⟨p, 0, none⟩), .nilIface]) w') : xE Tryd.prog (sCall 12 #[.int .i64 k, .int .i64 n]) w K := by
  refine xE_call CF_12 (new_ok h1 h2 h3) ?_
  rintro _ w' ⟨p, f, v, rfl, hC, hk⟩
  exact kk p f v w' hC hk
theorem madeT {p : Nat} {w : World} {b2 : List Value → Env → World → Prop} (k : ∀ junk, b2 [.bool false] junk w) :
    xJoin (fun J => xR Tryd.prog (sEq .eql 22 true (.pointer (some ⟨p, 0, none⟩)) (.pointer none)) w fun v => xIf v (J [.bool true] w) (xR Tryd.prog (sEq .neq 24 true .nilIface .nilIface) w fun u => J [u] w)) b2 := by
  refine xJoin_of (fun ls w' => ls = [.bool false] ∧ w = w') ?_ (fun _ junk _ ⟨e, e'⟩ => by subst e; subst e'; exact k junk)
  refine (xR_pnil PTC).2 ?_
  simp only [Option.isNone_some, xIf_false]
  refine (xR_neqN IFE).2 ?_
  exact ⟨rfl, trivial⟩
theorem badB_good {k s : Nat} {B : List (List UInt8)} (hk : 1 ≤ k) (hl : B.length = k) (hs : ∀ b ∈ B, b.length = s) : badB k B = false ∧ len0 B = s := by
  have h0 : len0 B = s := by unfold len0; rw [getD_lt (show 0 < B.length by omega)]; exact hs _ (List.getElem_mem _)
  refine ⟨?_, h0⟩
  unfold badB
  rw [h0, decide_eq_false (by omega), Bool.false_or, List.any_eq_false]
  intro b hb
  rw [hs b hb]
  simp
theorem encG {p k n f s : Nat} {v x : Value} {B : List (List UInt8)} {w : World} {K : Value → World → Prop} (h : CodeIs w p k n f v) (hB : RowsT w x B) (hl : B.length = k) (hs : ∀ b ∈ B, b.length = s) (hsz : s ≤ 1000000)
    (kk : ∀ y w', RowsT w' y (encP k n B s) → Kept [] w w' → K (.tuple #[y, .nilIface]) w') : xE Tryd.prog (sCall 14 #[.pointer (some ⟨p, 0, none⟩), x]) w K := by
  have hk1 := h.k1
  have hkn := h.kn
  have hn8 := h.n8
  obtain ⟨hg, h0⟩ := badB_good hk1 hl hs
  refine xE_call CF_14 (encode_ok h hB (by omega) (by omega)) ?_
  rintro _ w' ⟨hk, hres⟩
  rw [hg, h0] at hres
  obtain ⟨y, rs, G, rfl, hyo, hyx⟩ := hres
  exact kk y w' (by rw [← hyx]; exact hyo.rows) hk
theorem encF {p k n f s : Nat} {v x : Value} {B : List (List UInt8)} {w : World} {K : Value → World → Prop} (h : CodeIs w p k n f v) (hB : RowsT w x B) (hl : B.length = k) (hs : ∀ b ∈ B, b.length = s) (hsz : s ≤ 1000000)
    (kk : ∀ y rs G w', Out 32 5 w w' y rs G → rs.map Rq.x = encP k n B s → Kept [] w w' → K (.tuple #[y, .nilIface]) w') : xE Tryd.prog (sCall 14 #[.pointer (some ⟨p, 0, none⟩), x]) w K := by
  have hk1 := h.k1
  have hkn := h.kn
  have hn8 := h.n8
  obtain ⟨hg, h0⟩ := badB_good hk1 hl hs
  refine xE_call CF_14 (encode_ok h hB (by omega) (by omega)) ?_
  rintro _ w' ⟨hk, hres⟩
  rw [hg, h0] at hres
  obtain ⟨y, rs, G, rfl, hyo, hyx⟩ := hres
  exact kk y rs G w' hyo hyx hk
theorem encP_len (k n : Nat) (B : List (List UInt8)) (s : Nat) : (encP k n B s).length = n := by simp [encP]
theorem encP_get {k n i s : Nat} {B : List (List UInt8)} (h : i < n) : (encP k n B s).getD i [] = mixP (crow k i) B s := by
  unfold encP
  rw [getD_lt (by simpa using h), List.getElem_map, List.getElem_range]
theorem encP_rows {k n s : Nat} {B : List (List UInt8)} : ∀ b ∈ encP k n B s, b.length = s := by
  intro b hb
  obtain ⟨i, _, rfl⟩ := List.mem_map.1 hb
  exact mixP_len _ _ _
theorem mix_unit {k i s : Nat} {B : List (List UInt8)} (hB : B.length = k) (hs : ∀ b ∈ B, b.length = s) (hi : i < k) : mixP (crow k i) B s = B.getD i [] := by
  have hl : (B.getD i []).length = s := by rw [getD_lt (by omega)]; exact hs _ (List.getElem_mem _)
  refine ext8 (by rw [mixP_len, hl]) fun y hy => ?_
  rw [mixP_len] at hy
  rw [mixP_get hy, hB, lin_unit hi]
theorem encP_take {k n s : Nat} {B : List (List UInt8)} (hB : B.length = k) (hs : ∀ b ∈ B, b.length = s) (hkn : k ≤ n) : (encP k n B s).take k = B := by
  have hl : ((encP k n B s).take k).length = k := by rw [List.length_take, encP_len]; omega
  refine List.ext_getElem (by rw [hl, hB]) fun i h1 h2 => ?_
  rw [List.getElem_take]
  have := encP_get (k := k) (B := B) (s := s) (show i < n by omega)
  rw [getD_lt (by rw [encP_len]; omega)] at this
  rw [this, mix_unit hB hs (by omega), getD_lt h2]
def madeB (s : Nat) (b : List UInt8) (i x : Nat) : UInt8 := if b.length = 0 then 0 else b.getD ((i * s + x) % b.length) 0 + UInt8.ofNat i
def madeR (s : Nat) (b : List UInt8) (i : Nat) : List UInt8 := (List.range s).map (madeB s b i)
def madeP (k s : Nat) (b : List UInt8) : List (List UInt8) := (List.range k).map (madeR s b)
theorem madeP_len (k s : Nat) (b : List UInt8) : (madeP k s b).length = k := by simp [madeP]
theorem madeP_rows {k s : Nat} {b : List UInt8} : ∀ r ∈ madeP k s b, r.length = s := by
  intro r hr
  obtain ⟨i, _, rfl⟩ := List.mem_map.1 hr
  simp [madeR]
/-- Row i, of which j bytes are made. -/
def madeU (s : Nat) (b : List UInt8) (i j : Nat) : List UInt8 := (List.range j).map (madeB s b i) ++ List.replicate (s - j) 0
theorem madeU_len {s : Nat} {b : List UInt8} {i j : Nat} (h : j ≤ s) : (madeU s b i j).length = s := by unfold madeU; simp; omega
theorem madeU_set {s : Nat} {b : List UInt8} {i j : Nat} (h : j < s) : (madeU s b i j).set j (madeB s b i j) = madeU s b i (j + 1) := by
  unfold madeU
  rw [List.set_append_right _ _ (by simp), List.length_map, List.length_range, Nat.sub_self, show s - j = (s - (j + 1)) + 1 by omega, List.replicate_succ, List.set_cons_zero, List.range_succ, List.map_append, List.append_assoc]
  rfl
theorem madeU_same {s : Nat} {b : List UInt8} {i j : Nat} (h : j < s) (hc : madeB s b i j = 0) : madeU s b i j = madeU s b i (j + 1) := by
  unfold madeU
  rw [show s - j = (s - (j + 1)) + 1 by omega, List.replicate_succ, List.range_succ, List.map_append, List.append_assoc]
  show _ = _ ++ ([madeB s b i j] ++ _)
  rw [hc]
  rfl
theorem madeU_all (s : Nat) (b : List UInt8) (i : Nat) : madeU s b i s = madeR s b i := by
  unfold madeU madeR
  rw [Nat.sub_self, List.replicate_zero, List.append_nil]
theorem made_ok {k s : Nat} {b : List UInt8} {v : Value} {w : World} (hv : SlT w encB v b) (hk : k ≤ 8) (hs : s ≤ 12) : Gives Tryd.prog 21 #[.int .i64 k, .int .i64 s, v] w fun u w' => ∃ rs G, Out 32 5 w w' u rs G ∧ rs.map Rq.x = madeP k s b ∧ Kept [] w w' := by
  refine C_stavelaw4_made ?_
  unfold S_stavelaw4_made
  have hvs := hv
  obtain ⟨va, vc, rfl, hvc, hvr⟩ := hv
  refine xLoop_of (fun ls w' => ∃ (i : Nat) (o : Value) (rs : List Rq) (G : List Nat), ls = [o, .int .i64 i] ∧ i ≤ k ∧ Out 32 5 w w' o rs G ∧ rs.map Rq.x = madeP i s b ∧ Kept [] w w')
    (fun ls _ => match ls with | [_, .int _ a] => k - a.toNat | _ => 0) ⟨0, _, [], [], rfl, by omega, out_nil _ _, rfl, Kept.refl _ _⟩ ?_
  rintro _ _ w1 ⟨i, o, rs, G, rfl, hi, ho1, hrx, hk1⟩
  simp only [xP_nil, xP_pick, xP_func, xP_not, xP_add, xP_sub, xP_mul, xP_lss, xP_leq, xP_gtr, xP_geq, xP_max2, xP_min2, xR_eql, xR_neq, Nat.zero_add, Nat.add_zero, Nat.reduceAdd, List.getD_cons_zero, List.getD_cons_succ, xIf_true, xIf_false, FA_35_0, FA_35_1, FA_66_0, FA_66_1, FA_66_2, FA_82_0, FA_82_1, FA_82_2, FA_86_0, FA_86_1, LEN_29, LEN_32, LEN_47, LEN_48, LEN_79, LEN_116, xIf_dec]
  refine ⟨fun hlt => ?_, fun hge => ?_⟩
  · refine makeB (by omega) fun w2 hr2 hk2 hz2 => ?_
    simp only [xP_nil, xP_pick, xP_func, xP_not, xP_add, xP_sub, xP_mul, xP_lss, xP_leq, xP_gtr, xP_geq, xP_max2, xP_min2, xR_eql, xR_neq, Nat.zero_add, Nat.add_zero, Nat.reduceAdd, List.getD_cons_zero, List.getD_cons_succ, xIf_true, xIf_false, FA_35_0, FA_35_1, FA_66_0, FA_66_1, FA_66_2, FA_82_0, FA_82_1, FA_82_2, FA_86_0, FA_86_1, LEN_29, LEN_32, LEN_47, LEN_48, LEN_79, LEN_116]
    have ho2 := ho1.kept0 hk2
    have hGlt := ho1.own.lt
    have hrlt : ∀ r ∈ rs, ∀ g ∈ r.F, g < w1.heap.size := fun r hr => (ho1.ok r hr).lt
    have hz1 := hk1.size
    generalize hh : w1.heap.size = g at *
    refine xLoop_of (fun ls w' => ∃ j : Nat, ls = [.int .i64 j] ∧ j ≤ s ∧ Own w' 5 1 (.slice (some ⟨g, 0, none⟩) s s) s ((madeU s b i j).flatMap encB) [g] ∧ Kept [g] w2 w')
      (fun ls _ => match ls with | [.int _ j] => s - j.toNat | _ => 0) ⟨0, rfl, by omega, by simpa [madeU] using hr2, Kept.refl _ _⟩ ?_
    rintro _ _ w3 ⟨j, rfl, hj, hr3, hk3⟩
    simp only [xP_nil, xP_pick, xP_func, xP_not, xP_add, xP_sub, xP_mul, xP_lss, xP_leq, xP_gtr, xP_geq, xP_max2, xP_min2, xR_eql, xR_neq, Nat.zero_add, Nat.add_zero, Nat.reduceAdd, List.getD_cons_zero, List.getD_cons_succ, xIf_true, xIf_false, FA_35_0, FA_35_1, FA_66_0, FA_66_1, FA_66_2, FA_82_0, FA_82_1, FA_82_2, FA_86_0, FA_86_1, LEN_29, LEN_32, LEN_47, LEN_48, LEN_79, LEN_116, xIf_dec]
    have hk03 : Kept [] w w3 := (hk1.then hk2 (by simp)).then hk3 (fun x hx => by simp at hx; exact .inr (by omega))
    refine ⟨fun hlj => ?_, fun hgj => ?_⟩
    · have hjs : j < s := by omega
      refine xJoin_of (fun ls w' => ls = [] ∧ Own w' 5 1 (.slice (some ⟨g, 0, none⟩) s s) s ((madeU s b i (j + 1)).flatMap encB) [g] ∧ Kept [g] w2 w') ?_ ?_
      · refine ⟨fun hpos => ?_, fun hno => ?_⟩
        · have hbl : 0 < b.length := by omega
          have his : i * s ≤ 8 * 12 := Nat.mul_le_mul (by omega) hs
          have e1 : IntKind.i64.wrap ((i : Int) * (s : Nat)) = ((i * s : Nat) : Int) := by
            rw [show ((i : Int) * (s : Nat)) = ((i * s : Nat) : Int) by simp]
            exact wrap64 (by omega) (by omega)
          rw [e1]
          have e2 : IntKind.i64.wrap (((i * s : Nat) : Int) + (j : Nat)) = ((i * s + j : Nat) : Int) := by
            rw [show (((i * s : Nat) : Int) + (j : Nat)) = ((i * s + j : Nat) : Int) by simp]
            exact wrap64 (by omega) (by omega)
          rw [e2]
          refine (xP_rem (by omega)).2 ?_
          have e3 : (((i * s + j : Nat) : Int)).tmod ((b.length : Nat) : Int) = (((i * s + j) % b.length : Nat) : Int) := by
            rw [Int.tmod_eq_emod_of_nonneg (by omega)]
            omega
          rw [e3]
          have hm := Nat.mod_lt (i * s + j) hbl
          refine (rowB.get hvs hk03 hm).2 ?_
          rw [← getD_lt (d := 0) hm]
          refine (conv8i (a := UInt8.ofNat i) CI64 (by rw [u_of (by omega)])).2 ?_
          simp only [xP_nil, xP_pick, xP_func, xP_not, xP_add, xP_sub, xP_mul, xP_lss, xP_leq, xP_gtr, xP_geq, xP_max2, xP_min2, xR_eql, xR_neq, Nat.zero_add, Nat.add_zero, Nat.reduceAdd, List.getD_cons_zero, List.getD_cons_succ, xIf_true, xIf_false, FA_35_0, FA_35_1, FA_66_0, FA_66_1, FA_66_2, FA_82_0, FA_82_1, FA_82_2, FA_86_0, FA_86_1, LEN_29, LEN_32, LEN_47, LEN_48, LEN_79, LEN_116]
          have e4 : IntKind.u8.wrap (((b.getD ((i * s + j) % b.length) 0).toNat : Int) + (UInt8.ofNat i).toNat) = ((madeB s b i j).toNat : Int) := by
            unfold madeB
            rw [if_neg (by omega), wrapU8, UInt8.toNat_add]
            omega
          rw [e4]
          refine (xP_IAn SL_32 SZ_5 hjs).2 ?_
          rw [Nat.mul_one, Nat.zero_add]
          have := xE_storeOwn (P := Tryd.prog) (T := 5) (K := fun _ w' => True ∧ Own w' 5 1 (.slice (some ⟨g, 0, none⟩) s s) s ((madeU s b i (j + 1)).flatMap encB) [g] ∧ Kept [g] w2 w') (u := .int .u8 (madeB s b i j).toNat) SZ_5 hr3 (i := j) (by rw [flat_len encB_len, madeU_len hj]; omega) rfl fun w7 ho7 hk7 hz7 => by
            rw [flip_set8, madeU_set hjs] at ho7
            exact ⟨trivial, ho7, hk3.then hk7 (by simp)⟩
          rw [Nat.zero_add] at this
          exact this
        · have hc : madeB s b i j = 0 := by unfold madeB; rw [if_pos (by omega)]
          rw [← madeU_same hjs hc]
          exact ⟨by trivial, hr3, hk3⟩
      rintro _ _ w4 ⟨rfl, hr4, hk4⟩
      rw [wrap64 (by omega) (by omega)]
      exact ⟨⟨j + 1, rfl, by omega, hr4, hk4⟩, by omega⟩
    · obtain rfl : j = s := by omega
      rw [madeU_all] at hr3
      have ho3 := ho2.kept hk3 (fun x hx hm => by simp at hm; have := hGlt x hx; omega) (fun r hr x hx hm => by simp at hm; have := hrlt r hr x hx; omega)
      have hz3 := hk3.size
      refine xE_one EL_29 rfl fun w4 hat hk4 hz4 => ?_
      have hml : (madeR j b i).length = j := by simp [madeR]
      have hrok : Rq.Ok 5 w4 ⟨.slice (some ⟨g, 0, none⟩) j j, [g], madeR j b i⟩ := by
        have := hr3.kept hk4 (by simp)
        unfold Rq.Ok
        rw [hml]
        exact this
      have hrl : rs.length = i := by have := congrArg List.length hrx; rwa [List.length_map, madeP_len] at this
      refine (ho3.kept0 hk4).app (r := ⟨.slice (some ⟨g, 0, none⟩) j j, [g], madeR j b i⟩) EL_29 hrok (fun x hx => ?_) hat (by omega) (by omega) (by omega) fun u w5 G' ho5 hk5 hG' => ?_
      · simp at hx
        subst hx
        exact ⟨by omega, fun hm => by have := hGlt x hm; omega, fun q hq hm => by have := hrlt q hq x hm; omega⟩
      · try simp only [xP_nil, xP_pick, xP_func, xP_not, xP_add, xP_sub, xP_mul, xP_lss, xP_leq, xP_gtr, xP_geq, xP_max2, xP_min2, xR_eql, xR_neq, Nat.zero_add, Nat.add_zero, Nat.reduceAdd, List.getD_cons_zero, List.getD_cons_succ, xIf_true, xIf_false, FA_35_0, FA_35_1, FA_66_0, FA_66_1, FA_66_2, FA_82_0, FA_82_1, FA_82_2, FA_86_0, FA_86_1, LEN_29, LEN_32, LEN_47, LEN_48, LEN_79, LEN_116]
        rw [wrap64 (by omega) (by omega)]
        refine ⟨⟨i + 1, u, rs ++ [_], G', rfl, by omega, ho5, ?_, (hk03.then hk4 (by simp)).then hk5 (fun x hx => .inr (ho1.fresh x hx))⟩, by omega⟩
        rw [List.map_append, hrx]
        unfold madeP
        rw [List.range_succ, List.map_append]
        rfl
  · obtain rfl : i = k := by omega
    exact ⟨rs, G, ho1, hrx, hk1⟩
theorem madeS {k s : Nat} {b : List UInt8} {v : Value} {w : World} {K : Value → World → Prop} (hv : SlT w encB v b) (hk : k ≤ 8) (hs : s ≤ 12) (kk : ∀ u rs G w', Out 32 5 w w' u rs G → rs.map Rq.x = madeP k s b → Kept [] w w' → K u w') : xE Tryd.prog (sCall 21 #[.int .i64 k, .int .i64 s, v]) w K := by
  refine xE_call CF_21 (made_ok hv hk hs) ?_
  rintro u w' ⟨rs, G, h1, h2, h3⟩
  exact kk u rs G w' h1 h2 h3
/-- One row of a list is turned. -/
theorem Out.upd {w0 w w' : World} {v : Value} {rs : List Rq} {G : List Nat} {i : Nat} {x : List UInt8} (h : Out 32 5 w0 w v rs G) (hi : i < rs.length) (hk : Kept (rs.getD i dRq).F w w') (ho : Own w' 5 1 (rs.getD i dRq).v x.length (x.flatMap encB) (rs.getD i dRq).F) : Out 32 5 w0 w' v (rs.set i ⟨(rs.getD i dRq).v, (rs.getD i dRq).F, x⟩) G := by
  have hm : rs.getD i dRq ∈ rs := by rw [getD_lt hi]; exact List.getElem_mem _
  have hset : ∀ {β : Type} (f : Rq → β), f ⟨(rs.getD i dRq).v, (rs.getD i dRq).F, x⟩ = f (rs.getD i dRq) → (rs.set i ⟨(rs.getD i dRq).v, (rs.getD i dRq).F, x⟩).map f = rs.map f := fun f hf => by
    rw [List.map_set, hf]
    apply List.ext_getElem?
    intro j
    rw [List.getElem?_set, List.length_map]
    by_cases hij : i = j
    · subst hij
      rw [if_pos rfl, if_pos hi, List.getElem?_map, List.getElem?_eq_getElem hi, getD_lt hi]
      rfl
    · rw [if_neg hij]
  have hmem : ∀ r ∈ rs.set i ⟨(rs.getD i dRq).v, (rs.getD i dRq).F, x⟩, ∃ j, j < rs.length ∧ r.F = (rs.getD j dRq).F ∧ ((j = i ∧ r = ⟨(rs.getD i dRq).v, (rs.getD i dRq).F, x⟩) ∨ (j ≠ i ∧ r = rs.getD j dRq)) := fun r hr => by
    obtain ⟨j, hj, rfl⟩ := List.getElem_of_mem hr
    rw [List.length_set] at hj
    refine ⟨j, hj, ?_⟩
    rw [List.getElem_set]
    by_cases hij : i = j
    · subst hij
      rw [if_pos rfl]
      exact ⟨rfl, .inl ⟨rfl, rfl⟩⟩
    · rw [if_neg hij, getD_lt hj]
      exact ⟨rfl, .inr ⟨fun e => hij e.symm, rfl⟩⟩
  have hG : ∀ g ∈ G, g ∉ (rs.getD i dRq).F := fun g hg hm' => (h.rf _ hm g hm').2 hg
  refine ⟨?_, h.fresh, fun r hr => ?_, fun r hr => ?_, ?_⟩
  · rw [List.length_set, hset Rq.v rfl]
    exact h.own.kept hk hG
  · obtain ⟨j, hj, _, ⟨rfl, rfl⟩ | ⟨hji, rfl⟩⟩ := hmem r hr
    · exact ho
    · exact (h.ok _ (by rw [getD_lt hj]; exact List.getElem_mem _)).kept hk (nd_apart h.nd j i hj hi hji)
  · obtain ⟨j, hj, e, _⟩ := hmem r hr
    rw [e]
    exact h.rf _ (by rw [getD_lt hj]; exact List.getElem_mem _)
  · rw [List.flatMap_def, hset Rq.F rfl, ← List.flatMap_def]
    exact h.nd
end Go.Proofs.YtoanmeohlpdjfaaDoor
