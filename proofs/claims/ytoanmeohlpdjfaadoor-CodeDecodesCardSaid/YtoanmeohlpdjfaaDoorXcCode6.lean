import Derived.Test.YtoanmeohlpdjfaaDoorXcCode5
namespace Go.Proofs.YtoanmeohlpdjfaaDoor
set_option linter.unusedSimpArgs false
set_option linter.unusedVariables false
set_option maxRecDepth 100000
attribute [local irreducible] Go.X.xE
open Go Go.X Go.RowKit

/-! ## Rows copied, rows scaled -/
theorem xR_eqlSl {P : Program} {T E : TypeId} {w : World} {K : Value → Prop} {a : Option Addr} {n c : Nat} (h : P.underlying T = some (.slice E)) : xR P (sEq .eql T true (.slice a n c) (.slice none 0 0)) w K ↔ K (.bool a.isNone) := by
  refine xR_of ?_
  unfold sEq
  refine run_sB P _ w ?_
  have : eqGuard .eql T (bif true then .const undef else .tmp 0) (.tmp 0) (.slice a n c) (.slice none 0 0) = pure () := rfl
  rw [this]
  simp only [pure_bind]
  have e : ∀ d : Nat, (Op.equalIn (d + 1) T (.slice a n c) (.slice none 0 0)).run P w = .ok a.isNone w := fun d => by
    cases a <;> simp [Op.equalIn, run_underlying h]
  have := e 9999
  simp [binOp, Op.equal, Op.maxDepth, this]
theorem USB : Tryd.prog.underlying 32 = some (.slice 5) := by kernel_rfl
theorem clone_ok {v : Value} {x : List UInt8} {w : World} (h : SlT w encB v x) (hx : x.length ≤ 1000000) : Gives Tryd.prog 48 #[v] w fun u w' => ∃ q : Rq, u = q.v ∧ q.Ok 5 w' ∧ q.x = x ∧ (∀ g ∈ q.F, w.heap.size ≤ g) ∧ Kept [] w w' := by
  refine C_slices_Clone_byte ?_
  unfold S_slices_Clone_byte
  have hv := h
  obtain ⟨a, c, rfl, hc, hr⟩ := h
  refine (xR_eqlSl USB).2 ?_
  cases a with
  | none =>
    simp only [Option.isNone_none, xIf_true]
    have hx0 : x = [] := hr.resolve_right (by rintro ⟨b, o, h, _⟩; cases h)
    subst hx0
    exact ⟨⟨.slice none 0 0, [], []⟩, rfl, own_nil _ _ _, rfl, by simp, Kept.refl _ _⟩
  | some a =>
    simp only [Option.isNone_some, xIf_false]
    refine xE_copy0 EL_32 encB_len encB_one8 hv (by omega) (by unfold maxLen; omega) fun u w' F ho hF hk => ?_
    exact ⟨⟨u, F, x⟩, rfl, ho, rfl, hF, hk⟩
theorem cloneS {v : Value} {x : List UInt8} {w : World} {K : Value → World → Prop} (h : SlT w encB v x) (hx : x.length ≤ 1000000) (k : ∀ (q : Rq) w', q.Ok 5 w' → q.x = x → (∀ g ∈ q.F, w.heap.size ≤ g) → Kept [] w w' → K q.v w') : xE Tryd.prog (sCall 48 #[v]) w K := by
  refine xE_call CF_48 (clone_ok h hx) ?_
  rintro _ w' ⟨q, rfl, h1, h2, h3, h4⟩
  exact k q w' h1 h2 h3 h4
def sclU (xs : List UInt8) (x : UInt8) (i : Nat) : List UInt8 := (scl xs x).take i ++ xs.drop i
theorem sclU_len {xs : List UInt8} {x : UInt8} (i : Nat) : (sclU xs x i).length = xs.length := by
  unfold sclU
  rw [List.length_append, List.length_take, List.length_drop, scl_len]
  omega
theorem sclU_at {xs : List UInt8} {x : UInt8} {i : Nat} (hi : i < xs.length) : (sclU xs x i).getD i 0 = xs.getD i 0 := by
  unfold sclU
  rw [List.getD_eq_getElem?_getD, List.getElem?_append_right (by rw [List.length_take, scl_len]; omega), List.length_take, scl_len, List.getElem?_drop, List.getD_eq_getElem?_getD]
  congr 2
  omega
theorem sclU_set {xs : List UInt8} {x : UInt8} {i : Nat} (hi : i < xs.length) : (sclU xs x i).set i (umul (xs.getD i 0) x) = sclU xs x (i + 1) := by
  unfold sclU
  have hl := scl_len xs x
  rw [List.set_append_right _ _ (by rw [List.length_take, hl]; omega), List.length_take, hl, show i - min i xs.length = 0 by omega, List.drop_eq_getElem_cons hi, List.set_cons_zero, umul_comm, ← scl_get, List.take_add_one, List.append_assoc]
  congr 1
  rw [List.getElem?_eq_getElem (by rw [hl]; exact hi), getD_lt (by rw [hl]; exact hi)]
  rfl
/-- One pass. -/
theorem scalePass {p k f : Nat} {cv v : Value} {xs : List UInt8} {x : UInt8} {F : List Nat} {w : World} {R : World → Prop} (hbk : Blk w p 66 [.int .i64 k, .pointer (some ⟨f, 0, none⟩), cv]) (hfd : FieldIs w f) (hv : Own w 5 1 v xs.length (xs.flatMap encB) F) (hF : ∀ g ∈ F, g ≠ p ∧ g ≠ f) (hs : xs.length ≤ 1000000)
    (kk : ∀ w', Own w' 5 1 v xs.length ((scl xs x).flatMap encB) F → Kept F w w' → R w') :
    xP Tryd.prog (sB .len #[32] #[v]) fun v11_1 =>
    xLoop [(.int .i64 0)] w fun J2 vs3 _ w5 =>
      xP Tryd.prog (sBin .lss 3 (vs3.getD 0 undef) v11_1) fun v13_6 =>
      xIf v13_6 (
        xP Tryd.prog (sNil (.pointer (some ⟨p, 0, none⟩))) fun v18_7 =>
      xP Tryd.prog (sFA 66 v18_7 1) fun v19_8 =>
      xR Tryd.prog (sLoad 63 v19_8) (w5.drew) fun v20_9 =>
      xP Tryd.prog (sIA 32 v (vs3.getD 0 undef)) fun v23_10 =>
      xR Tryd.prog (sLoad 5 v23_10) (w5.drew) fun v24_11 =>
      xE Tryd.prog (sCall 50 #[v20_9, v24_11, (.int .u8 x.toNat)]) (w5.drew) fun v26_12 w13 =>
      xP Tryd.prog (sIA 32 v (vs3.getD 0 undef)) fun v27_14 =>
      xE Tryd.prog (sStore 5 v27_14 v26_12) w13 fun _ w15 =>
      xP Tryd.prog (sBin .add 3 (vs3.getD 0 undef) (.int .i64 1)) fun v28_16 =>
      J2 [v28_16] w15) (R w5) := by
  obtain ⟨va, vc, rfl, hvc, _⟩ := hv.slice
  simp only [xP_nil, xP_pick, xP_func, xP_not, xP_add, xP_sub, xP_mul, xP_lss, xP_leq, xP_gtr, xP_geq, xP_max2, xP_min2, xR_eql, xR_neq, Nat.zero_add, Nat.add_zero, Nat.reduceAdd, List.getD_cons_zero, List.getD_cons_succ, xIf_true, xIf_false, FA_35_0, FA_35_1, FA_66_0, FA_66_1, FA_66_2, FA_82_0, FA_82_1, FA_82_2, FA_86_0, FA_86_1, LEN_29, LEN_32, LEN_47, LEN_48, LEN_79, LEN_116]
  have hpF : p ∉ F := fun hm => (hF p hm).1 rfl
  have hfF : f ∉ F := fun hm => (hF f hm).2 rfl
  refine xLoop_of (fun ls w' => ∃ i : Nat, ls = [.int .i64 i] ∧ i ≤ xs.length ∧ Own w' 5 1 (.slice va xs.length vc) xs.length ((sclU xs x i).flatMap encB) F ∧ Kept F w w') (fun ls _ => match ls with | [.int _ i] => xs.length - i.toNat | _ => 0) ⟨0, rfl, by omega, by simpa [sclU] using hv, Kept.refl _ _⟩ ?_
  rintro _ _ w1 ⟨i, rfl, hi, ho, hk⟩
  simp only [xP_nil, xP_pick, xP_func, xP_not, xP_add, xP_sub, xP_mul, xP_lss, xP_leq, xP_gtr, xP_geq, xP_max2, xP_min2, xR_eql, xR_neq, Nat.zero_add, Nat.add_zero, Nat.reduceAdd, List.getD_cons_zero, List.getD_cons_succ, xIf_true, xIf_false, FA_35_0, FA_35_1, FA_66_0, FA_66_1, FA_66_2, FA_82_0, FA_82_1, FA_82_2, FA_86_0, FA_86_1, LEN_29, LEN_32, LEN_47, LEN_48, LEN_79, LEN_116, xIf_dec]
  refine ⟨fun hlt => ?_, fun hge => ?_⟩
  · have hi1 : i < xs.length := by omega
    have hd1 := kept_drew [] w1
    obtain ⟨g, o, c, he, hFe⟩ := ho.ex (by omega)
    cases he
    have hod := ho.kept hd1 (by simp)
    refine (ld1 ONE_63 ((blk_drew (hbk.kept hk hpF)).cell (o := 1))).2 ?_
    refine (xP_IAn SL_32 SZ_5 hi1).2 ?_
    rw [Nat.mul_one]
    have hcell : w1.drew.cell? ⟨g, o + i, none⟩ = some (.int .u8 (xs.getD i 0).toNat) := by
      refine at_cell hod.at_.2 ?_
      rw [getD_cell8 (by rw [sclU_len]; exact hi1), sclU_at hi1]
    refine (ld1 ONE_5 hcell).2 ?_
    refine fmulS ((hfd.kept hk hfF).kept hd1 (by simp)) fun w2 hk2 => ?_
    refine (xP_IAn SL_32 SZ_5 hi1).2 ?_
    rw [Nat.mul_one]
    refine xE_storeOwn SZ_5 (hod.kept hk2 (by simp)) (by rw [flat_len encB_len, sclU_len]; omega) rfl fun w3 ho3 hk3 hz3 => ?_
    rw [flip_set8, sclU_set hi1] at ho3
    try simp only [xP_nil, xP_pick, xP_func, xP_not, xP_add, xP_sub, xP_mul, xP_lss, xP_leq, xP_gtr, xP_geq, xP_max2, xP_min2, xR_eql, xR_neq, Nat.zero_add, Nat.add_zero, Nat.reduceAdd, List.getD_cons_zero, List.getD_cons_succ, xIf_true, xIf_false, FA_35_0, FA_35_1, FA_66_0, FA_66_1, FA_66_2, FA_82_0, FA_82_1, FA_82_2, FA_86_0, FA_86_1, LEN_29, LEN_32, LEN_47, LEN_48, LEN_79, LEN_116]
    rw [wrap64 (by omega) (by omega)]
    exact ⟨⟨i + 1, rfl, by omega, ho3, ((hk.then hd1 (by simp)).then hk2 (by simp)).then hk3 (by rw [hFe]; intro k hk; exact .inl hk)⟩, by omega⟩
  · obtain rfl : i = xs.length := by omega
    have e : sclU xs x xs.length = scl xs x := by
      unfold sclU
      rw [List.drop_length, List.append_nil, List.take_of_length_le (by rw [scl_len]; omega)]
    rw [e] at ho
    exact kk _ ho hk
theorem scale_ok {p k f : Nat} {cv va vb : Value} {a b : List UInt8} {x : UInt8} {F G : List Nat} {w : World} (hbk : Blk w p 66 [.int .i64 k, .pointer (some ⟨f, 0, none⟩), cv]) (hfd : FieldIs w f) (ha : Own w 5 1 va a.length (a.flatMap encB) F) (hb : Own w 5 1 vb b.length (b.flatMap encB) G) (hF : ∀ g ∈ F, g ≠ p ∧ g ≠ f) (hG : ∀ g ∈ G, g ≠ p ∧ g ≠ f) (hFG : ∀ g ∈ F, g ∉ G) (hsa : a.length ≤ 1000000) (hsb : b.length ≤ 1000000) :
    Gives Tryd.prog 49 #[.pointer (some ⟨p, 0, none⟩), va, vb, .int .u8 x.toNat] w fun _ w' => Own w' 5 1 va a.length ((scl a x).flatMap encB) F ∧ Own w' 5 1 vb b.length ((scl b x).flatMap encB) G ∧ Kept (F ++ G) w w' := by
  refine C_code_Code_scale ?_
  unfold S_code_Code_scale
  refine scalePass hbk hfd ha hF hsa fun w1 ha1 hk1 => ?_
  have hpF : p ∉ F := fun hm => (hF p hm).1 rfl
  have hfF : f ∉ F := fun hm => (hF f hm).2 rfl
  refine scalePass (hbk.kept hk1 hpF) (hfd.kept hk1 hfF) (hb.kept hk1 (fun g hg hm => hFG g hm hg)) hG hsb fun w2 hb2 hk2 => ?_
  exact ⟨ha1.kept hk2 hFG, hb2, (hk1.mono (fun g hg => .inl (List.mem_append_left _ hg))).then hk2 (fun g hg => .inl (List.mem_append_right _ hg))⟩

/-! ## Two lists of rows that are turned together -/
abbrev Qp := Rq × Rq
structure St (w0 w : World) (vm vo : Value) (K : Nat) (q : Nat → Qp) (g1 g2 : Nat) : Prop where
  own1 : Own w 32 1 vm K ((List.range K).map fun i => (q i).1.v) [g1]
  own2 : Own w 32 1 vo K ((List.range K).map fun i => (q i).2.v) [g2]
  ok1 : ∀ i, i < K → (q i).1.Ok 5 w
  ok2 : ∀ i, i < K → (q i).2.Ok 5 w
  ne : g1 ≠ g2
  f1 : w0.heap.size ≤ g1
  f2 : w0.heap.size ≤ g2
  rf1 : ∀ i, i < K → ∀ g ∈ (q i).1.F, w0.heap.size ≤ g ∧ g ≠ g1 ∧ g ≠ g2
  rf2 : ∀ i, i < K → ∀ g ∈ (q i).2.F, w0.heap.size ≤ g ∧ g ≠ g1 ∧ g ≠ g2
  d12 : ∀ i, i < K → ∀ j, j < K → ∀ g ∈ (q i).1.F, g ∉ (q j).2.F
  d11 : ∀ i, i < K → ∀ j, j < K → i ≠ j → ∀ g ∈ (q i).1.F, g ∉ (q j).1.F
  d22 : ∀ i, i < K → ∀ j, j < K → i ≠ j → ∀ g ∈ (q i).2.F, g ∉ (q j).2.F
def rp (q : Nat → Qp) : Nat → Rpr := fun i => ((q i).1.x, (q i).2.x)
section
variable {w0 w w' : World} {vm vo : Value} {K g1 g2 i c p : Nat} {q : Nat → Qp}
theorem St.kept0 (h : St w0 w vm vo K q g1 g2) (hk : Kept [] w w') : St w0 w' vm vo K q g1 g2 :=
  ⟨h.own1.kept hk (by simp), h.own2.kept hk (by simp), fun i hi => (h.ok1 i hi).kept0 hk, fun i hi => (h.ok2 i hi).kept0 hk, h.ne, h.f1, h.f2, h.rf1, h.rf2, h.d12, h.d11, h.d22⟩
theorem range_get {α : Type} {f : Nat → α} {n i : Nat} (h : i < n) : ((List.range n).map f)[i]? = some (f i) := by
  rw [List.getElem?_map, List.getElem?_range h]; rfl
theorem ownRow {w : World} {v : Value} {K g i : Nat} {f : Nat → Value} (h : Own w 32 1 v K ((List.range K).map f) [g]) (hi : i < K) {R : Value → Prop} : (xP Tryd.prog (sIA 29 v (.int .i64 i)) fun u => xR Tryd.prog (sLoad 32 u) w R) ↔ R (f i) := by
  obtain ⟨g', o, c, rfl, _⟩ := h.ex (by omega)
  rw [xP_IAn SL_29 SZ_32 hi, Nat.mul_one]
  exact ld1 ONE_32 (at_cell h.at_.2 (range_get hi))
theorem ownRowA {w : World} {v : Value} {K g i : Nat} {f : Nat → Value} (h : Own w 32 1 v K ((List.range K).map f) [g]) (hi : i < K) {R : Value → Value → Prop} (k : ∀ A : Addr, (∀ w', Kept [] w w' → w'.cell? A = some (f i)) → R (.pointer (some A)) (f i)) : xP Tryd.prog (sIA 29 v (.int .i64 i)) fun a => xR Tryd.prog (sLoad 32 a) w fun u => R a u := by
  obtain ⟨g', o, c, rfl, _⟩ := h.ex (by omega)
  rw [xP_IAn SL_29 SZ_32 hi, Nat.mul_one]
  have hc : ∀ w', Kept [] w w' → w'.cell? ⟨g', o + i, none⟩ = some (f i) := fun w' hk => at_cell (h.kept hk (by simp)).at_.2 (range_get hi)
  exact (ld1 ONE_32 (hc w (Kept.refl _ _))).2 (k _ hc)
theorem ownSet {w : World} {v u : Value} {K g i : Nat} {f : Nat → Value} (h : Own w 32 1 v K ((List.range K).map f) [g]) (hi : i < K) (hu : u.oneCell' = true) {R : World → Prop} (k : ∀ w', Own w' 32 1 v K ((List.range K).map fun t => if t = i then u else f t) [g] → Kept [g] w w' → R w') :
    xP Tryd.prog (sIA 29 v (.int .i64 i)) fun a => xE Tryd.prog (sStore 32 a u) w fun _ w' => R w' := by
  obtain ⟨g', o, c, rfl, hF⟩ := h.ex (by omega)
  cases hF
  rw [xP_IAn SL_29 SZ_32 hi, Nat.mul_one]
  refine xE_storeOwn SZ_32 h (by simp; omega) hu fun w' ho hk hz => k w' ?_ hk
  have e : ((List.range K).map f).set i u = (List.range K).map fun t => if t = i then u else f t := by
    apply List.ext_getElem?
    intro j
    rw [List.getElem?_set, List.length_map, List.length_range]
    by_cases hj : j < K
    · rw [range_get hj, range_get hj]
      by_cases hij : i = j
      · subst hij
        rw [if_pos rfl, if_pos hi, if_pos rfl]
      · rw [if_neg hij, if_neg (fun e => hij e.symm)]
    · rw [List.getElem?_eq_none (by simp; omega), List.getElem?_eq_none (l := (List.range K).map fun t => if t = i then u else f t) (by simp; omega)]
      split
      · rename_i e; omega
      · rfl
  rwa [e] at ho
def swpQ (q : Nat → Qp) (c p : Nat) : Nat → Qp := fun t => q (if t = p then c else if t = c then p else t)
theorem rp_swp : rp (swpQ q c p) = swpF (rp q) c p := rfl
/-- Two rows change places, in both lists. -/
theorem St.swap (h : St w0 w vm vo K q g1 g2) (hc : c < K) (hp : p < K) {R : World → Prop} (k : ∀ w', St w0 w' vm vo K (swpQ q c p) g1 g2 → Kept [g1, g2] w w' → R w') :
    xP Tryd.prog (sIA 29 vm (.int .i64 c)) fun v85 => xE Tryd.prog (sStore 32 v85 (q p).1.v) w fun _ w66 =>
    xP Tryd.prog (sIA 29 vm (.int .i64 p)) fun v86 => xE Tryd.prog (sStore 32 v86 (q c).1.v) w66 fun _ w68 =>
    xP Tryd.prog (sIA 29 vo (.int .i64 c)) fun v87 => xE Tryd.prog (sStore 32 v87 (q p).2.v) w68 fun _ w70 =>
    xP Tryd.prog (sIA 29 vo (.int .i64 p)) fun v88 => xE Tryd.prog (sStore 32 v88 (q c).2.v) w70 fun _ w72 => R w72 := by
  refine ownSet h.own1 hc (h.ok1 p hp).one fun w1 o1 hk1 => ?_
  refine ownSet o1 hp (h.ok1 c hc).one fun w2 o2 hk2 => ?_
  have hk02 : Kept [g1] w w2 := hk1.then hk2 (by simp)
  refine ownSet (h.own2.kept hk02 (by simp; exact fun e => h.ne e.symm)) hc (h.ok2 p hp).one fun w3 o3 hk3 => ?_
  refine ownSet o3 hp (h.ok2 c hc).one fun w4 o4 hk4 => ?_
  have hk24 : Kept [g2] w2 w4 := hk3.then hk4 (by simp)
  have hk04 : Kept [g1, g2] w w4 := (hk02.mono (by simp)).then hk24 (by simp)
  have hi : ∀ t, t < K → (if t = p then c else if t = c then p else t) < K := fun t ht => by split; exact hc; split; exact hp; exact ht
  have hinj : ∀ i j, i ≠ j → (if i = p then c else if i = c then p else i) ≠ (if j = p then c else if j = c then p else j) := fun i j hij => by
    split <;> split <;> (try split) <;> (try split) <;> omega
  refine k w4 ⟨?_, ?_, fun t ht => (h.ok1 _ (hi t ht)).kept hk04 (fun g hg hm => ?_), fun t ht => (h.ok2 _ (hi t ht)).kept hk04 (fun g hg hm => ?_), h.ne, h.f1, h.f2, fun t ht => h.rf1 _ (hi t ht), fun t ht => h.rf2 _ (hi t ht), fun i hi' j hj => h.d12 _ (hi i hi') _ (hi j hj), fun i hi' j hj hij => h.d11 _ (hi i hi') _ (hi j hj) (hinj i j hij), fun i hi' j hj hij => h.d22 _ (hi i hi') _ (hi j hj) (hinj i j hij)⟩ hk04
  · have := o2.kept hk24 (by simp; exact h.ne)
    refine cast (congrArg (fun l => Own w4 32 1 vm K l [g1]) (List.map_congr_left fun t _ => ?_)) this
    unfold swpQ
    split
    · rfl
    · split <;> rfl
  · refine cast (congrArg (fun l => Own w4 32 1 vo K l [g2]) (List.map_congr_left fun t _ => ?_)) o4
    unfold swpQ
    split
    · rfl
    · split <;> rfl
  · have := h.rf1 _ (hi t ht) g hg
    simp at hm
    rcases hm with rfl | rfl
    · exact this.2.1 rfl
    · exact this.2.2 rfl
  · have := h.rf2 _ (hi t ht) g hg
    simp at hm
    rcases hm with rfl | rfl
    · exact this.2.1 rfl
    · exact this.2.2 rfl
def updQ (q : Nat → Qp) (i : Nat) (a b : List UInt8) : Nat → Qp := fun t => if t = i then (⟨(q i).1.v, (q i).1.F, a⟩, ⟨(q i).2.v, (q i).2.F, b⟩) else q t
/-- Row i is turned, in both lists. -/
theorem St.upd (h : St w0 w vm vo K q g1 g2) (hi : i < K) {a b : List UInt8} (hk : Kept ((q i).1.F ++ (q i).2.F) w w') (ha : Own w' 5 1 (q i).1.v a.length (a.flatMap encB) (q i).1.F) (hb : Own w' 5 1 (q i).2.v b.length (b.flatMap encB) (q i).2.F) : St w0 w' vm vo K (updQ q i a b) g1 g2 := by
  have e1 : ∀ t, (updQ q i a b t).1.v = (q t).1.v ∧ (updQ q i a b t).1.F = (q t).1.F ∧ (updQ q i a b t).2.v = (q t).2.v ∧ (updQ q i a b t).2.F = (q t).2.F := fun t => by
    unfold updQ
    split
    · rename_i e; subst e; exact ⟨rfl, rfl, rfl, rfl⟩
    · exact ⟨rfl, rfl, rfl, rfl⟩
  have hmem : ∀ g, g ∈ (q i).1.F ++ (q i).2.F → g ≠ g1 ∧ g ≠ g2 := fun g hg => by
    rcases List.mem_append.1 hg with hg | hg
    · exact (h.rf1 i hi g hg).2
    · exact (h.rf2 i hi g hg).2
  have o1 := h.own1.kept hk (fun g hg hm => by simp at hg; exact (hmem g hm).1 hg)
  have o2 := h.own2.kept hk (fun g hg hm => by simp at hg; exact (hmem g hm).2 hg)
  refine ⟨?_, ?_, fun t ht => ?_, fun t ht => ?_, h.ne, h.f1, h.f2, fun t ht => by rw [(e1 t).2.1]; exact h.rf1 t ht, fun t ht => by rw [(e1 t).2.2.2]; exact h.rf2 t ht, fun i' hi' j hj => by rw [(e1 i').2.1, (e1 j).2.2.2]; exact h.d12 i' hi' j hj, fun i' hi' j hj hij => by rw [(e1 i').2.1, (e1 j).2.1]; exact h.d11 i' hi' j hj hij, fun i' hi' j hj hij => by rw [(e1 i').2.2.2, (e1 j).2.2.2]; exact h.d22 i' hi' j hj hij⟩
  · rw [show (List.range K).map (fun t => (updQ q i a b t).1.v) = (List.range K).map fun t => (q t).1.v from List.map_congr_left fun t _ => (e1 t).1]
    exact o1
  · rw [show (List.range K).map (fun t => (updQ q i a b t).2.v) = (List.range K).map fun t => (q t).2.v from List.map_congr_left fun t _ => (e1 t).2.2.1]
    exact o2
  · by_cases e : t = i
    · subst e
      unfold updQ
      rw [if_pos rfl]
      exact ha
    · unfold updQ
      rw [if_neg e]
      refine (h.ok1 t ht).kept hk (fun g hg hm => ?_)
      rcases List.mem_append.1 hm with hm | hm
      · exact h.d11 t ht i hi e g hg hm
      · exact h.d12 t ht i hi g hg hm
  · by_cases e : t = i
    · subst e
      unfold updQ
      rw [if_pos rfl]
      exact hb
    · unfold updQ
      rw [if_neg e]
      refine (h.ok2 t ht).kept hk (fun g hg hm => ?_)
      rcases List.mem_append.1 hm with hm | hm
      · exact h.d12 i hi t ht g hm hg
      · exact h.d22 t ht i hi e g hg hm
theorem rp_upd {a b : List UInt8} (t : Nat) : rp (updQ q i a b) t = if t = i then (a, b) else rp q t := by
  unfold rp updQ
  split <;> rfl
def elimQ (q : Nat → Qp) (c n : Nat) : Nat → Qp := fun t => if t = c ∨ n ≤ t then q t else (⟨(q t).1.v, (q t).1.F, (addP (rp q t) (rp q c) c).1⟩, ⟨(q t).2.v, (q t).2.F, (addP (rp q t) (rp q c) c).2⟩)
theorem rp_elim (q : Nat → Qp) (c n : Nat) : rp (elimQ q c n) = elimF (rp q) c n := by
  funext t
  unfold rp elimQ elimF
  by_cases e : t = c ∨ n ≤ t
  · rw [if_pos e, if_pos e]
  · rw [if_neg e, if_neg e]
    rfl
theorem elimQ_zero (q : Nat → Qp) (c : Nat) : elimQ q c 0 = q := by
  funext t
  unfold elimQ
  rw [if_pos (.inr (by omega))]
theorem elimQ_at (q : Nat → Qp) (c n : Nat) : elimQ q c n c = q c := by unfold elimQ; rw [if_pos (.inl rfl)]
theorem elimQ_from (q : Nat → Qp) {c n t : Nat} (h : n ≤ t) : elimQ q c n t = q t := by unfold elimQ; rw [if_pos (.inr h)]
theorem elimQ_upd {n : Nat} (hn : n ≠ c) : elimQ q c (n + 1) = updQ (elimQ q c n) n (mulAdd (q n).1.x (q c).1.x ((q n).1.x.getD c 0)) (mulAdd (q n).2.x (q c).2.x ((q n).1.x.getD c 0)) := by
  funext t
  unfold updQ
  rw [elimQ_from q (Nat.le_refl n)]
  by_cases e : t = n
  · subst e
    rw [if_pos rfl]
    unfold elimQ
    rw [if_neg (by omega)]
    rfl
  · rw [if_neg e]
    unfold elimQ
    by_cases h1 : t = c ∨ n ≤ t
    · rw [if_pos h1, if_pos (by omega)]
    · rw [if_neg h1, if_neg (by omega)]
theorem elimQ_skip {n : Nat} (h : n = c ∨ ((q n).1.x.length = (q c).1.x.length ∧ (q n).2.x.length = (q c).2.x.length ∧ (q n).1.x.getD c 0 = 0)) : elimQ q c (n + 1) = elimQ q c n := by
  funext t
  unfold elimQ
  by_cases e : t = n
  · subst e
    rw [if_pos (show t = c ∨ t ≤ t from .inr (Nat.le_refl _))]
    rcases h with h | ⟨h1, h2, h3⟩
    · rw [if_pos (.inl h)]
    · by_cases hc : t = c
      · rw [if_pos (.inl hc)]
      · rw [if_neg (by omega)]
        unfold addP rp
        simp only
        rw [h3, mulAdd_zero h1, mulAdd_zero h2]
  · by_cases h1 : t = c ∨ n ≤ t
    · rw [if_pos h1, if_pos (by omega)]
    · rw [if_neg h1, if_neg (by omega)]
end
end Go.Proofs.YtoanmeohlpdjfaaDoor
