import Derived.Test.YtoanmeohlpdjfaaDoorXcCodeK
import Derived.Test.YtoanmeohlpdjfaaDoorXAppZ
namespace Go.Proofs.YtoanmeohlpdjfaaDoor
set_option linter.unusedSimpArgs false
set_option linter.unusedVariables false
set_option maxRecDepth 100000
attribute [local irreducible] Go.X.xE
open Go Go.X Go.RowKit

/-! ## The document's inverse -/
structure Sg (w0 w : World) (v : Value) (K : Nat) (q : Nat → Rq) (g1 : Nat) : Prop where
  own : Own w 32 1 v K ((List.range K).map fun i => (q i).v) [g1]
  ok : ∀ i, i < K → (q i).Ok 5 w
  f1 : w0.heap.size ≤ g1
  rf : ∀ i, i < K → ∀ g ∈ (q i).F, w0.heap.size ≤ g ∧ g ≠ g1
  dj : ∀ i, i < K → ∀ j, j < K → i ≠ j → ∀ g ∈ (q i).F, g ∉ (q j).F
def updq (q : Nat → Rq) (i : Nat) (a : List UInt8) : Nat → Rq := fun t => if t = i then ⟨(q i).v, (q i).F, a⟩ else q t
theorem updq_at (q : Nat → Rq) (i : Nat) (a : List UInt8) : updq q i a i = ⟨(q i).v, (q i).F, a⟩ := if_pos rfl
theorem updq_v (q : Nat → Rq) (i : Nat) (a : List UInt8) (t : Nat) : (updq q i a t).v = (q t).v := by
  unfold updq; split
  · rename_i e; subst e; rfl
  · rfl
theorem updq_F (q : Nat → Rq) (i : Nat) (a : List UInt8) (t : Nat) : (updq q i a t).F = (q t).F := by
  unfold updq; split
  · rename_i e; subst e; rfl
  · rfl
theorem updq_else {q : Nat → Rq} {i t : Nat} {a : List UInt8} (h : t ≠ i) : updq q i a t = q t := if_neg h
theorem updq_twice (q : Nat → Rq) (i : Nat) (a b : List UInt8) : updq (updq q i a) i b = updq q i b := by
  funext t
  unfold updq
  by_cases h : t = i
  · rw [if_pos h, if_pos h, if_pos rfl]
  · rw [if_neg h, if_neg h, if_neg h]
theorem updq_self (q : Nat → Rq) (i : Nat) : updq q i (q i).x = q := by
  funext t
  unfold updq
  by_cases h : t = i
  · rw [if_pos h, h]
  · rw [if_neg h]
section
variable {w0 w w' : World} {v : Value} {K g1 i c : Nat} {q : Nat → Rq}
theorem Sg.kept0 (h : Sg w0 w v K q g1) (hk : Kept [] w w') : Sg w0 w' v K q g1 := ⟨h.own.kept hk (by simp), fun i hi => (h.ok i hi).kept0 hk, h.f1, h.rf, h.dj⟩
theorem Sg.upd (h : Sg w0 w v K q g1) (hi : i < K) {a : List UInt8} (hk : Kept (q i).F w w') (ha : Own w' 5 1 (q i).v a.length (a.flatMap encB) (q i).F) : Sg w0 w' v K (updq q i a) g1 := by
  refine ⟨?_, fun t ht => ?_, h.f1, fun t ht => by rw [updq_F]; exact h.rf t ht, fun i' hi' j hj hij => by rw [updq_F, updq_F]; exact h.dj i' hi' j hj hij⟩
  · rw [show (List.range K).map (fun t => (updq q i a t).v) = (List.range K).map fun t => (q t).v from List.map_congr_left fun t _ => updq_v q i a t]
    exact h.own.kept hk (fun g hg hm => by simp at hg; exact (h.rf i hi g hm).2 hg)
  · by_cases e : t = i
    · subst e
      rw [updq_at]
      exact ha
    · rw [updq_else e]
      exact (h.ok t ht).kept hk (fun g hg hm => h.dj t ht i hi e g hg hm)
def swpq (q : Nat → Rq) (c p : Nat) : Nat → Rq := fun t => q (if t = p then c else if t = c then p else t)
theorem Sg.swap {p : Nat} (h : Sg w0 w v K q g1) (hc : c < K) (hp : p < K) {R : World → Prop} (k : ∀ w', Sg w0 w' v K (swpq q c p) g1 → Kept [g1] w w' → R w') :
    xP Tryd.prog (sIA 29 v (.int .i64 c)) fun v85 => xE Tryd.prog (sStore 32 v85 (q p).v) w fun _ w66 =>
    xP Tryd.prog (sIA 29 v (.int .i64 p)) fun v86 => xE Tryd.prog (sStore 32 v86 (q c).v) w66 fun _ w68 => R w68 := by
  refine ownSet h.own hc (h.ok p hp).one fun w1 o1 hk1 => ?_
  refine ownSet o1 hp (h.ok c hc).one fun w2 o2 hk2 => ?_
  have hk02 : Kept [g1] w w2 := hk1.then hk2 (by simp)
  have hi : ∀ t, t < K → (if t = p then c else if t = c then p else t) < K := fun t ht => by split; exact hc; split; exact hp; exact ht
  have hinj : ∀ i j, i ≠ j → (if i = p then c else if i = c then p else i) ≠ (if j = p then c else if j = c then p else j) := fun i j hij => by
    split <;> split <;> (try split) <;> (try split) <;> omega
  refine k w2 ⟨?_, fun t ht => (h.ok _ (hi t ht)).kept hk02 (fun g hg hm => by simp at hm; exact (h.rf _ (hi t ht) g hg).2 hm), h.f1, fun t ht => h.rf _ (hi t ht), fun i hi' j hj hij => h.dj _ (hi i hi') _ (hi j hj) (hinj i j hij)⟩ hk02
  refine cast (congrArg (fun l => Own w2 32 1 v K l [g1]) (List.map_congr_left fun t _ => ?_)) o2
  unfold swpq
  split
  · rfl
  · split <;> rfl
/-- One byte of a row is set. -/
theorem Sg.setB (h : Sg w0 w v K q g1) (hi : i < K) {j : Nat} (hj : j < (q i).x.length) {b : UInt8} {R : World → Prop} (k : ∀ w', Sg w0 w' v K (updq q i ((q i).x.set j b)) g1 → Kept (q i).F w w' → R w') :
    xP Tryd.prog (sIA 32 (q i).v (.int .i64 j)) fun a => xE Tryd.prog (sStore 5 a (.int .u8 b.toNat)) w fun _ w' => R w' := by
  have ho := h.ok i hi
  unfold Rq.Ok at ho
  have ho0 := ho
  obtain ⟨g, o, cc, hve, hFe⟩ := ho.ex (by omega)
  rw [hve] at ho
  rw [hve]
  refine (xP_IAn SL_32 SZ_5 hj).2 ?_
  rw [Nat.mul_one]
  refine xE_storeOwn SZ_5 ho (i := j) (by rw [flat_len encB_len]; omega) rfl fun w' ho' hk' hz' => ?_
  rw [flip_set8, ← hve] at ho'
  exact k w' (h.upd hi hk' (by rw [List.length_set]; exact ho')) hk'
/-- The byte at an address, once more. -/
theorem byteAtA {w : World} {v : Value} {x : List UInt8} {i : Nat} {R : Value → Value → Prop} (h : SlT w encB v x) (hi : i < x.length) (k : ∀ A : Addr, (∀ w', Kept [] w w' → w'.cell? A = some (.int .u8 (x.getD i 0).toNat)) → R (.pointer (some A)) (.int .u8 (x.getD i 0).toNat)) : xP Tryd.prog (sIA 32 v (.int .i64 i)) fun u => xR Tryd.prog (sLoad 5 u) w fun y => R u y := by
  obtain ⟨b, o, c, rfl, hat⟩ := h.elem encB_len hi
  rw [xP_IAn SL_32 SZ_5 hi, Nat.mul_one]
  rw [Nat.mul_one] at hat
  have hc : ∀ w', Kept [] w w' → w'.cell? ⟨b, o + i, none⟩ = some (.int .u8 (x.getD i 0).toNat) := fun w' hk' => by
    rw [getD_lt hi]
    exact at_one (hat.kept hk' (by simp))
  exact (ld1 ONE_5 (hc w (Kept.refl _ _))).2 (k _ hc)
theorem lenB {w : World} {v : Value} {x : List UInt8} {R : Value → Prop} (h : SlT w encB v x) : xP Tryd.prog (sB .len #[32] #[v]) R ↔ R (.int .i64 x.length) := by
  obtain ⟨a, c, rfl, _, _⟩ := h
  exact xP_len SL_32
theorem scaleRow (h : Sg w0 w v K q g1) (hc : c < K) (hs : (q c).x.length ≤ 1000000) {x : UInt8} {R : World → Prop} (kk : ∀ w', Sg w0 w' v K (updq q c (scl (q c).x x)) g1 → Kept (q c).F w w' → R w') :
    xP Tryd.prog (sB .len #[32] #[(q c).v]) fun v90 =>
    xLoop [(.int .i64 0)] w fun J61 vs62 _ w64 =>
      xP Tryd.prog (sBin .lss 3 (vs62.getD 0 undef) v90) fun v92 =>
      xIf v92 (
        xP Tryd.prog (sIA 29 v (.int .i64 c)) fun v96 => xR Tryd.prog (sLoad 32 v96) (w64.drew) fun v97 =>
        xP Tryd.prog (sIA 29 v (.int .i64 c)) fun v101 => xR Tryd.prog (sLoad 32 v101) (w64.drew) fun v102 =>
        xP Tryd.prog (sIA 32 v102 (vs62.getD 0 undef)) fun v104 => xR Tryd.prog (sLoad 5 v104) (w64.drew) fun v105 =>
        xE Tryd.prog (sCall 18 #[v105, .int .u8 x.toNat]) (w64.drew) fun v107 w73 =>
        xStill Tryd.prog (sLoad 32 v96) v97 w73 <|
        xP Tryd.prog (sIA 32 v97 (vs62.getD 0 undef)) fun v108 =>
        xE Tryd.prog (sStore 5 v108 v107) w73 fun _ w75 =>
        xP Tryd.prog (sBin .add 3 (vs62.getD 0 undef) (.int .i64 1)) fun v109 =>
        J61 [v109] w75) (R w64) := by
  refine (lenB (h.ok c hc).slT).2 ?_
  refine xLoop_of (fun ls w' => ∃ j : Nat, ls = [.int .i64 j] ∧ j ≤ (q c).x.length ∧ Sg w0 w' v K (updq q c (sclU (q c).x x j)) g1 ∧ Kept (q c).F w w') (fun ls _ => match ls with | [.int _ i] => (q c).x.length - i.toNat | _ => 0) ⟨0, rfl, by omega, by
    have e : sclU (q c).x x 0 = (q c).x := by simp [sclU]
    rw [e, updq_self]; exact h, Kept.refl _ _⟩ ?_
  rintro _ _ w1 ⟨j, rfl, hj, h1, hk1⟩
  simp only [xP_nil, xP_pick, xP_func, xP_not, xP_add, xP_sub, xP_mul, xP_lss, xP_leq, xP_gtr, xP_geq, xP_max2, xP_min2, xR_eql, xR_neq, Nat.zero_add, Nat.add_zero, Nat.reduceAdd, List.getD_cons_zero, List.getD_cons_succ, xIf_true, xIf_false, FA_35_0, FA_35_1, FA_66_0, FA_66_1, FA_66_2, FA_82_0, FA_82_1, FA_82_2, FA_86_0, FA_86_1, LEN_29, LEN_32, LEN_47, LEN_48, LEN_79, LEN_116, xIf_dec]
  refine ⟨fun hlt => ?_, fun hge => ?_⟩
  · have hj1 : j < (q c).x.length := by omega
    have h1d := h1.kept0 (kept_drew [] w1)
    have hxl : (updq q c (sclU (q c).x x j) c).x = sclU (q c).x x j := by rw [updq_at]
    refine ownRowA h1d.own hc fun A hA => ?_
    refine (ownRow h1d.own hc).2 ?_
    refine (byteAt (h1d.ok c hc).slT (by rw [hxl, sclU_len]; exact hj1)).2 ?_
    rw [hxl, sclU_at hj1]
    refine rmulS ?_
    refine (still1 ONE_32 (hA _ (Kept.refl _ _))).2 ?_
    refine h1d.setB hc (by rw [hxl, sclU_len]; exact hj1) fun w2 h2 hk2 => ?_
    rw [hxl, updq_twice, sclU_set hj1] at h2
    rw [wrap64 (by omega) (by omega)]
    rw [updq_F] at hk2
    exact ⟨⟨j + 1, rfl, by omega, h2, hk1.drew.then hk2 (fun g hg => .inl hg)⟩, by omega⟩
  · obtain rfl : j = (q c).x.length := by omega
    have e : sclU (q c).x x (q c).x.length = scl (q c).x x := by
      unfold sclU
      rw [List.drop_length, List.append_nil, List.take_of_length_le (by rw [scl_len]; omega)]
    rw [e] at h1
    exact kk w1 h1 hk1
theorem elimRow (h : Sg w0 w v K q g1) (hi : i < K) (hc : c < K) (hic : i ≠ c) (hl : (q i).x.length = (q c).x.length) (hs : (q i).x.length ≤ 1000000) {x : UInt8} {R : World → Prop} (kk : ∀ w', Sg w0 w' v K (updq q i (mulAdd (q i).x (q c).x x)) g1 → Kept (q i).F w w' → R w') :
    xP Tryd.prog (sB .len #[32] #[(q i).v]) fun v133 =>
    xLoop [(.int .i64 0)] w fun J96 vs97 _ w99 =>
      xP Tryd.prog (sBin .lss 3 (vs97.getD 0 undef) v133) fun v135 =>
      xIf v135 (
        xP Tryd.prog (sIA 29 v (.int .i64 i)) fun v139 => xR Tryd.prog (sLoad 32 v139) (w99.drew) fun v140 =>
        xP Tryd.prog (sIA 29 v (.int .i64 i)) fun v144 => xR Tryd.prog (sLoad 32 v144) (w99.drew) fun v145 =>
        xP Tryd.prog (sIA 32 v145 (vs97.getD 0 undef)) fun v147 => xR Tryd.prog (sLoad 5 v147) (w99.drew) fun v148 =>
        xP Tryd.prog (sIA 29 v (.int .i64 c)) fun v152 => xR Tryd.prog (sLoad 32 v152) (w99.drew) fun v153 =>
        xP Tryd.prog (sIA 32 v153 (vs97.getD 0 undef)) fun v155 => xR Tryd.prog (sLoad 5 v155) (w99.drew) fun v156 =>
        xE Tryd.prog (sCall 18 #[.int .u8 x.toNat, v156]) (w99.drew) fun v157 w112 =>
        xStill Tryd.prog (sLoad 5 v147) v148 w112 <|
        xStill Tryd.prog (sLoad 32 v144) v145 w112 <|
        xStill Tryd.prog (sLoad 32 v139) v140 w112 <|
        xP Tryd.prog (sBin .xor 5 v148 v157) fun v158 =>
        xP Tryd.prog (sIA 32 v140 (vs97.getD 0 undef)) fun v159 =>
        xE Tryd.prog (sStore 5 v159 v158) w112 fun _ w115 =>
        xP Tryd.prog (sBin .add 3 (vs97.getD 0 undef) (.int .i64 1)) fun v160 =>
        J96 [v160] w115) (R w99) := by
  refine (lenB (h.ok i hi).slT).2 ?_
  refine xLoop_of (fun ls w' => ∃ j : Nat, ls = [.int .i64 j] ∧ j ≤ (q i).x.length ∧ Sg w0 w' v K (updq q i (addU (q i).x (q c).x x j)) g1 ∧ Kept (q i).F w w') (fun ls _ => match ls with | [.int _ y] => (q i).x.length - y.toNat | _ => 0) ⟨0, rfl, by omega, by
    have e : addU (q i).x (q c).x x 0 = (q i).x := by simp [addU]
    rw [e, updq_self]; exact h, Kept.refl _ _⟩ ?_
  rintro _ _ w1 ⟨j, rfl, hj, h1, hk1⟩
  simp only [xP_nil, xP_pick, xP_func, xP_not, xP_add, xP_sub, xP_mul, xP_lss, xP_leq, xP_gtr, xP_geq, xP_max2, xP_min2, xR_eql, xR_neq, Nat.zero_add, Nat.add_zero, Nat.reduceAdd, List.getD_cons_zero, List.getD_cons_succ, xIf_true, xIf_false, FA_35_0, FA_35_1, FA_66_0, FA_66_1, FA_66_2, FA_82_0, FA_82_1, FA_82_2, FA_86_0, FA_86_1, LEN_29, LEN_32, LEN_47, LEN_48, LEN_79, LEN_116, xIf_dec]
  refine ⟨fun hlt => ?_, fun hge => ?_⟩
  · have hj1 : j < (q i).x.length := by omega
    have h1d := h1.kept0 (kept_drew [] w1)
    have hxl : (updq q i (addU (q i).x (q c).x x j) i).x = addU (q i).x (q c).x x j := by rw [updq_at]
    have hxc : (updq q i (addU (q i).x (q c).x x j) c).x = (q c).x := by rw [updq_else (fun e => hic e.symm)]
    refine ownRowA h1d.own hi fun A hA => ?_
    refine ownRowA h1d.own hi fun A' hA' => ?_
    refine byteAtA (h1d.ok i hi).slT (by rw [hxl, addU_len hl]; exact hj1) fun B hB => ?_
    rw [hxl, addU_at hl hj1] at hB ⊢
    refine (ownRow h1d.own hc).2 ?_
    refine (byteAt (h1d.ok c hc).slT (by rw [hxc]; omega)).2 ?_
    rw [hxc]
    refine rmulS ?_
    refine (still1 ONE_5 (hB _ (Kept.refl _ _))).2 ?_
    refine (still1 ONE_32 (hA' _ (Kept.refl _ _))).2 ?_
    refine (still1 ONE_32 (hA _ (Kept.refl _ _))).2 ?_
    rw [xP_xor8]
    refine h1d.setB hi (by rw [hxl, addU_len hl]; exact hj1) fun w2 h2 hk2 => ?_
    rw [hxl, updq_twice, addU_set hl hj1] at h2
    rw [wrap64 (by omega) (by omega)]
    rw [updq_F] at hk2
    exact ⟨⟨j + 1, rfl, by omega, h2, hk1.drew.then hk2 (fun g hg => .inl hg)⟩, by omega⟩
  · obtain rfl : j = (q i).x.length := by omega
    have e : addU (q i).x (q c).x x (q i).x.length = mulAdd (q i).x (q c).x x := by
      unfold addU
      rw [List.drop_length, List.append_nil, List.take_of_length_le (by rw [mulAdd_len hl]; omega)]
    rw [e] at h1
    exact kk w1 h1 hk1
end
theorem mulAdd_app {a1 a2 b1 b2 : List UInt8} (h : a1.length = b1.length) (x : UInt8) : mulAdd (a1 ++ a2) (b1 ++ b2) x = mulAdd a1 b1 x ++ mulAdd a2 b2 x := by
  unfold mulAdd
  exact List.zipWith_append h
theorem scl_app (a b : List UInt8) (x : UInt8) : scl (a ++ b) x = scl a x ++ scl b x := List.map_append
theorem getD_app {a b : List UInt8} {c : Nat} (h : c < a.length) : (a ++ b).getD c 0 = a.getD c 0 := by
  rw [List.getD_eq_getElem?_getD, List.getElem?_append_left h, List.getD_eq_getElem?_getD]
end Go.Proofs.YtoanmeohlpdjfaaDoor
