import Derived.Test.YtoanmeohlpdjfaaDoorXcCodeN
namespace Go.Proofs.YtoanmeohlpdjfaaDoor
set_option linter.unusedSimpArgs false
set_option linter.unusedVariables false
set_option maxRecDepth 100000
attribute [local irreducible] Go.X.xE
open Go Go.X Go.RowKit

/-! ## CodeDecodes -/
theorem cutA {wz : World} {g : Nat} {v73 : Value} {c : List UInt8} {K : Value → World → Prop} (ho : Own wz 5 1 (.slice (some ⟨g, 0, none⟩) 0 0) 0 [] [g]) (hs : SlT wz encB v73 c) (hc : c.length ≤ 9)
    (k : ∀ u w' F, Own w' 5 1 u c.length (c.flatMap encB) F → Kept [g] wz w' → (∀ x ∈ F, x = g ∨ wz.heap.size ≤ x) → K u w') : xE Tryd.prog (sB .append #[32, 32] #[.slice (some ⟨g, 0, none⟩) 0 0, v73]) wz K := by
  refine xE_appendSrc EL_32 ho (Src.ofSlT (sliceB_spec SL_32) hs encB_len encB_one8) (by rw [Nat.zero_add]; omega) (by rw [Nat.zero_add]; unfold maxLen; omega) fun u w' F ho' hk hF _ => ?_
  rw [Nat.zero_add, List.nil_append] at ho'
  exact k u w' F ho' hk fun x hx => (hF x hx).imp (fun h => by simpa using h) id
theorem cutV {w : World} {x : List UInt8} {u : Value} {m : Nat} (hu : SlT w encB u x) (hm : m ≤ 9) {K : Value → Prop} (k : ∀ y c, SlT w encB y c → c.length ≤ 9 → K y) :
    xP Tryd.prog (sB .min #[3, 3] #[.int .i64 x.length, .int .i64 m]) fun v72 => xP Tryd.prog (sSlice 32 u none (some v72) none) fun v73 => K v73 := by
  have hu0 := hu
  obtain ⟨a, c, rfl, hc, _⟩ := hu
  refine xP_min2.2 ?_
  have hmin : (min ((x.length : Nat) : Int) (m : Nat)).toNat ≤ x.length := by omega
  refine (xP_upto SL_32 SZ_5 (by omega) (by omega)).2 ?_
  exact k _ _ (SlT.upto encB_len hu0 hmin) (by rw [List.length_take]; omega)
theorem storePt {w : World} {pb : Nat} {a : Int} {u : Value} {K : Value → World → Prop} (hb : Blk w pb 35 [.int .i64 0, .slice none 0 0]) (hu : u.oneCell' = true) (k : ∀ x w', Blk w' pb 35 [.int .i64 a, u] → Kept [pb] w w' → K x w') : xE Tryd.prog (sStore 35 (.pointer (some ⟨pb, 0, none⟩)) (.agg #[.int .i64 a, u])) w K := by
  refine xE_storeN (v := .agg #[.int .i64 a, u]) (l1 := []) (l2 := [.int .i64 0, .slice none 0 0]) (l3 := []) SZ_35 hb rfl rfl rfl (fun y hy => by
    simp [Value.cells] at hy
    rcases hy with rfl | rfl
    · rfl
    · exact hu) fun w' hb' hk' _ => k _ w' (by simpa [Value.cells] using hb') hk'
theorem sol_same {k n s : Nat} {l : List Pt} {X Y : List (List UInt8)} (hn : n ≤ 8) (hk : k ≤ 8) (hbad : l.findIdx (badPt n l) = l.length) (hc : (chosenP k l).length = k) (hX : X.length = k) (hXs : ∀ b ∈ X, b.length = s) (hY : Y.length = k) (hYs : ∀ b ∈ Y, b.length = s)
    (hsX : Sol k s (fun j => X.getD j []) (ptR k (chosenP k l))) (hsY : Sol k s (fun j => Y.getD j []) (ptR k (chosenP k l))) : X = Y := by
  have hker := ker_pts (k := k) (n := n) (l := chosenP k l) (fun q hq => by
    have := find_end hbad q (chosen_mem hq)
    unfold badPt at this
    simp only [decide_eq_false_iff_not, not_or] at this
    omega) (by omega) (by omega) hc (chosen_nd k l)
  exact rows_ext (by omega) hXs hYs fun j hj y hy => hsX.uniq hker hsY j (by omega) y hy
/-- A part of one's own: what a cut leaves. -/
def BoxJ (w1 : World) (a : Int) (ls : List Value) (w' : World) : Prop := ∃ (pb : Nat) (u : Value) (c : List UInt8) (F : List Nat), ls = [.pointer (some ⟨pb, 0, none⟩)] ∧ Blk w' pb 35 [.int .i64 a, u] ∧ Own w' 5 1 u c.length (c.flatMap encB) F ∧ (∀ g ∈ F, w1.heap.size ≤ g) ∧ c.length ≤ 9 ∧ Kept [] w1 w'
theorem finA {w w1 wz : World} {a : Int} {A0 : Addr} {g : Nat} {y : Value} {c : List UInt8} (hA : ∀ w'', Kept [] w w'' → w''.cell? A0 = some (.int .i64 a)) (hk1 : Kept [] w w1) (hkz : Kept [] w1 wz) (ho : Own wz 5 1 (.slice (some ⟨g, 0, none⟩) 0 0) 0 [] [g]) (hg : w1.heap.size ≤ g) (hy : SlT w encB y c) (hc : c.length ≤ 9) :
    xE Tryd.prog (sB .append #[32, 32] #[.slice (some ⟨g, 0, none⟩) 0 0, y]) wz fun v74 w44 =>
      xStill Tryd.prog (sLoad 3 (.pointer (some A0))) (.int .i64 a) w44 <|
      xP Tryd.prog (sBuild 35 #[(0, .int .i64 a), (1, v74)]) fun v75 =>
      xE Tryd.prog (sAlloc 35) w44 fun v17 w47 =>
      xStill Tryd.prog (sLoad 3 (.pointer (some A0))) (.int .i64 a) w47 <|
      xE Tryd.prog (sStore 35 v17 v75) w47 fun _ w48 => BoxJ w1 a [v17] w48 := by
  have hzz := hkz.size
  refine cutA ho (hy.kept0 (hk1.then hkz (by simp))) hc fun u w2 F ho2 hk2 hF => ?_
  have hF1 : ∀ x ∈ F, w1.heap.size ≤ x := fun x hx => (hF x hx).elim (fun h => by omega) (fun h => by omega)
  have hk12 : Kept [] w1 w2 := hkz.then hk2 (fun x hx => by simp at hx; subst hx; exact .inr hg)
  refine (still1 ONE_3 (hA w2 (hk1.then hk12 (by simp)))).2 ?_
  have hsl : SlT w2 encB u c := Own.slT (sz := 1) ho2 encB_len (by omega)
  refine (bldPt hsl).2 ?_
  refine xE_alloc Z_35 fun w3 hb3 hk3 hz3 => ?_
  have hk13 := hk12.then hk3 (by simp)
  refine (still1 ONE_3 (hA w3 (hk1.then hk13 (by simp)))).2 ?_
  have hz2 := hk12.size
  have hlt := ho2.lt
  refine storePt hb3 (SlT.oneP hsl) fun _ w4 hb4 hk4 => ?_
  exact ⟨_, u, c, F, rfl, hb4, (ho2.kept hk3 (by simp)).kept hk4 (fun x hx hm => by simp at hm; have := hlt x hx; omega), hF1, hc, hk13.then hk4 (fun x hx => by simp at hx; subst hx; exact .inr hz2)⟩
theorem finB {w w1 wz : World} {a : Int} {A0 : Addr} {g pb : Nat} {y : Value} {c : List UInt8} (hA : ∀ w'', Kept [] w w'' → w''.cell? A0 = some (.int .i64 a)) (hk1 : Kept [] w w1) (hkz : Kept [] w1 wz) (ho : Own wz 5 1 (.slice (some ⟨g, 0, none⟩) 0 0) 0 [] [g]) (hg : w1.heap.size ≤ g) (hb : Blk wz pb 35 [.int .i64 0, .slice none 0 0]) (hpb : w1.heap.size ≤ pb) (hne : pb ≠ g) (hy : SlT w encB y c) (hc : c.length ≤ 9) :
    xE Tryd.prog (sB .append #[32, 32] #[.slice (some ⟨g, 0, none⟩) 0 0, y]) wz fun v74 w44 =>
      xStill Tryd.prog (sLoad 3 (.pointer (some A0))) (.int .i64 a) w44 <|
      xP Tryd.prog (sBuild 35 #[(0, .int .i64 a), (1, v74)]) fun v75 =>
      xE Tryd.prog (sStore 35 (.pointer (some ⟨pb, 0, none⟩)) v75) w44 fun _ w48 => BoxJ w1 a [.pointer (some ⟨pb, 0, none⟩)] w48 := by
  have hzz := hkz.size
  have hblt := hb.lt
  refine cutA ho (hy.kept0 (hk1.then hkz (by simp))) hc fun u w2 F ho2 hk2 hF => ?_
  have hF1 : ∀ x ∈ F, w1.heap.size ≤ x := fun x hx => (hF x hx).elim (fun h => by omega) (fun h => by omega)
  have hk12 : Kept [] w1 w2 := hkz.then hk2 (fun x hx => by simp at hx; subst hx; exact .inr hg)
  refine (still1 ONE_3 (hA w2 (hk1.then hk12 (by simp)))).2 ?_
  have hsl : SlT w2 encB u c := Own.slT (sz := 1) ho2 encB_len (by omega)
  refine (bldPt hsl).2 ?_
  refine storePt (hb.kept hk2 (by simpa using hne)) (SlT.oneP hsl) fun _ w4 hb4 hk4 => ?_
  exact ⟨_, u, c, F, rfl, hb4, ho2.kept hk4 (fun x hx hm => by simp at hm; subst hm; exact (hF x hx).elim (fun h => hne h) (fun h => by omega)), hF1, hc, hk12.then hk4 (fun x hx => by simp at hx; subst hx; exact .inr hpb)⟩
theorem cdecodes_ok {k n size at_ : Int} {l : List Pt} {v : Value} {w : World} (hg : Glob w) (hl : SlT w encPt v l) (hp : PtsOk w l) :
    Gives Tryd.prog 8 #[.int .i64 k, .int .i64 n, .int .i64 size, v, .int .i64 at_] w fun u w' => u = .bool true ∧ Kept [] w w' := by
  refine C_stavelaw4_CodeDecodes ?_
  unfold S_stavelaw4_CodeDecodes
  have hl0 := hl
  obtain ⟨la, lc, rfl, _, _⟩ := hl
  refine withinN (by omega) (by omega) (by omega) fun kk hk1 hk8 => ?_
  refine withinN (by omega) (by omega) (by omega) fun nn hn1 hn8 => ?_
  refine newS (by omega) (by omega) (by omega) fun p f cv w1 hC hkc => ?_
  simp only [xP_ex0, xP_ex1]
  refine madeT fun _ => ?_
  simp only [List.getD_cons_zero, xIf_false]
  refine xLoop_of (fun ls w' => ∃ (i : Nat) (o : Value) (ps : List Pt) (G : List Nat), ls = [o, .int .i64 i] ∧ i ≤ 12 ∧ ps.length = i ∧ OwnP w' o ps G ∧ (∀ g ∈ G, w1.heap.size ≤ g) ∧ (∀ q ∈ ps, q.d.length ≤ 9 ∧ ∃ F, Own w' 5 1 q.v q.d.length (q.d.flatMap encB) F ∧ ∀ g ∈ F, g ∉ G) ∧ Kept [] w1 w')
    (fun ls _ => match ls with | [_, .int _ i] => 12 - i.toNat | _ => 0) ⟨0, _, [], [], rfl, by omega, rfl, own_nil _ _ _, by simp, by simp, Kept.refl _ _⟩ ?_
  rintro _ _ w2 ⟨i, o, ps, G, rfl, hi12, hpl, hop, hG, hps, hk2⟩
  have hk02 := hkc.then hk2 (by simp)
  have hz12 := hk2.size
  simp only [List.getD_cons_zero, List.getD_cons_succ]
  refine xTest2 SL_48 (fun h1 h2 _ => ?_) (fun _ _ => ?_)
  · simp only [List.getD_cons_zero, xIf_true]
    have hd2 := hk02.then (kept_drew [] w2) (by simp)
    have hq := hp _ (List.getElem_mem h1)
    refine xJoin_of (BoxJ w2.drew l[i].at_) ?_ ?_
    · refine rowPt.fldA hl0 hd2 h1 (show fieldB Tryd.prog 35 0 0 = true by kernel_rfl) ONE_3 rfl fun A0 hA0 => ?_
      refine rowPt.fldA hl0 hd2 h1 (show fieldB Tryd.prog 35 1 1 = true by kernel_rfl) ONE_32 rfl fun A1 hA1 => ?_
      refine rowPt.fldA hl0 hd2 h1 (show fieldB Tryd.prog 35 1 1 = true by kernel_rfl) ONE_32 rfl fun A2 hA2 => ?_
      generalize l[i] = q at *
      refine (lenB hq).2 ?_
      generalize hwd : w2.drew = wd at *
      have st : ∀ {wz : World} {B : Prop}, Kept [] wd wz → B → (xStill Tryd.prog (sLoad 32 (.pointer (some A2))) q.v wz <| xStill Tryd.prog (sLoad 32 (.pointer (some A1))) q.v wz <| xStill Tryd.prog (sLoad 3 (.pointer (some A0))) (.int .i64 q.at_) wz B) := fun hk hB => by
        have hk' := hd2.then hk (by simp)
        exact (still1 ONE_32 (hA2 _ hk')).2 ((still1 ONE_32 (hA1 _ hk')).2 ((still1 ONE_3 (hA0 _ hk')).2 hB))
      have kr := Kept.refl ([] : List Nat) wd
      refine ⟨?_, ?_, ?_⟩
      · refine xE_slice0 EL_32 fun wa hoa hka hza => ?_
        refine st hka ?_
        refine ⟨?_, ?_⟩
        · refine withinN (by omega) (by omega) (by omega) fun m _ hm => ?_
          refine st hka ?_
          refine cutV hq (by omega) fun y c hy hc => ?_
          refine ⟨?_, ?_⟩
          · exact finA hA0 hd2 hka hoa (Nat.le_refl _) hy hc
          · refine xE_alloc Z_35 fun wb hbb hkb hzb => ?_
            have hkab := hka.then hkb (by simp)
            refine st hkab ?_
            exact finB hA0 hd2 hkab (hoa.kept hkb (by simp)) (Nat.le_refl _) hbb hka.size (by omega) hy hc
        · refine xE_alloc Z_35 fun wb hbb hkb hzb => ?_
          have hkab := hka.then hkb (by simp)
          refine st hkab ?_
          refine withinN (by omega) (by omega) (by omega) fun m _ hm => ?_
          refine st hkab ?_
          refine cutV hq (by omega) fun y c hy hc => ?_
          exact finB hA0 hd2 hkab (hoa.kept hkb (by simp)) (Nat.le_refl _) hbb hka.size (by omega) hy hc
      · refine withinN (by omega) (by omega) (by omega) fun m _ hm => ?_
        refine st kr ?_
        refine cutV hq (by omega) fun y c hy hc => ?_
        refine ⟨?_, ?_⟩
        · refine xE_slice0 EL_32 fun wa hoa hka hza => ?_
          refine st hka ?_
          refine ⟨?_, ?_⟩
          · exact finA hA0 hd2 hka hoa (Nat.le_refl _) hy hc
          · refine xE_alloc Z_35 fun wb hbb hkb hzb => ?_
            have hkab := hka.then hkb (by simp)
            refine st hkab ?_
            exact finB hA0 hd2 hkab (hoa.kept hkb (by simp)) (Nat.le_refl _) hbb hka.size (by omega) hy hc
        · refine xE_alloc Z_35 fun wa hba hka hza => ?_
          refine st hka ?_
          refine xE_slice0 EL_32 fun wb hob hkb hzb => ?_
          have hkab := hka.then hkb (by simp)
          refine st hkab ?_
          exact finB hA0 hd2 hkab hob hka.size (hba.kept hkb (by simp)) (Nat.le_refl _) (by omega) hy hc
      · refine xE_alloc Z_35 fun wa hba hka hza => ?_
        refine st hka ?_
        refine ⟨?_, ?_⟩
        · refine xE_slice0 EL_32 fun wb hob hkb hzb => ?_
          have hkab := hka.then hkb (by simp)
          refine st hkab ?_
          refine withinN (by omega) (by omega) (by omega) fun m _ hm => ?_
          refine st hkab ?_
          refine cutV hq (by omega) fun y c hy hc => ?_
          exact finB hA0 hd2 hkab hob hka.size (hba.kept hkb (by simp)) (Nat.le_refl _) (by omega) hy hc
        · refine withinN (by omega) (by omega) (by omega) fun m _ hm => ?_
          refine st hka ?_
          refine cutV hq (by omega) fun y c hy hc => ?_
          refine xE_slice0 EL_32 fun wb hob hkb hzb => ?_
          have hkab := hka.then hkb (by simp)
          refine st hkab ?_
          exact finB hA0 hd2 hkab hob hka.size (hba.kept hkb (by simp)) (Nat.le_refl _) (by omega) hy hc
    rintro _ _ w3 ⟨pb, u, c, F, rfl, hb3, ho3, hF3, hc9, hk3⟩
    simp only [List.getD_cons_zero]
    have hzd : w2.drew.heap.size = w2.heap.size := rfl
    have hk23 : Kept [] w2 w3 := (kept_drew [] w2).then hk3 (by simp)
    have hk13 := hk2.then hk23 (by simp)
    refine (ldN (l := [.int .i64 l[i].at_, u]) AGG_35 hb3.at).2 ?_
    have hsl3 : SlT w3 encB u c := Own.slT (sz := 1) ho3 encB_len (by omega)
    have hGlt := hop.lt
    have hlt3 := ho3.lt
    refine appPt (q := ⟨l[i].at_, u, c⟩) (hop.kept hk23 (by simp)) hsl3 (by omega) fun o' w4 G' ho4 _ hk4 hG' => ?_
    simp only [xP_nil, xP_pick, xP_func, xP_not, xP_add, xP_sub, xP_mul, xP_lss, xP_leq, xP_gtr, xP_geq, xP_max2, xP_min2, xR_eql, xR_neq, Nat.zero_add, Nat.add_zero, Nat.reduceAdd, List.getD_cons_zero, List.getD_cons_succ, xIf_true, xIf_false, FA_35_0, FA_35_1, FA_66_0, FA_66_1, FA_66_2, FA_82_0, FA_82_1, FA_82_2, FA_86_0, FA_86_1, LEN_29, LEN_32, LEN_47, LEN_48, LEN_79, LEN_116]
    rw [wrap64 (by omega) (by omega)]
    have hz23 := hk23.size
    refine ⟨⟨i + 1, o', ps ++ [⟨l[i].at_, u, c⟩], G', rfl, by omega, by simp [hpl], ho4, fun g hg => (hG' g hg).elim (hG g) (fun h => by omega), fun r hr => ?_, hk13.then hk4 (fun g hg => .inr (hG g hg))⟩, by omega⟩
    rcases List.mem_append.1 hr with hr | hr
    · obtain ⟨a1, Fr, a2, a3⟩ := hps r hr
      have hFl := a2.lt
      exact ⟨a1, Fr, (a2.kept hk23 (by simp)).kept hk4 a3, fun g hg hm => (hG' g hm).elim (a3 g hg) (fun h => by have := hFl g hg; omega)⟩
    · rw [List.mem_singleton] at hr
      subst hr
      have hFG : ∀ g ∈ F, g ∉ G := fun g hg hm => by have := hF3 g hg; have := hGlt g hm; omega
      exact ⟨hc9, F, ho3.kept hk4 hFG, fun g hg hm => (hG' g hm).elim (hFG g hg) (fun h => by have := hlt3 g hg; omega)⟩
  · simp only [List.getD_cons_zero, xIf_false]
    have hpok : PtsOk w2 ps := fun q hq => by
      obtain ⟨_, F, h, _⟩ := hps q hq
      exact Own.slT (sz := 1) h encB_len (by omega)
    have hsl := ownP_sl hop
    have hsz : s0 ps ≤ 9 := by
      unfold s0
      by_cases h0 : 0 < ps.length
      · rw [getD_lt h0]; exact (hps _ (List.getElem_mem h0)).1
      · rw [List.eq_nil_of_length_eq_zero (show ps.length = 0 by omega)]
        exact Nat.zero_le _
    have hC2 := hC.kept0 hk2
    refine xE_call CF_15 (decode_ok hC2 hsl hpok (by omega) (by omega)) ?_
    rintro du w3 ⟨hdec, hk3⟩
    have hk03 := hk02.then hk3 (by simp)
    have hsl3 := hsl.kept0 hk3
    have hpok3 := hpok.kept0 hk3
    obtain ⟨y1, e1, rfl⟩ : ∃ y1 e1, du = .tuple #[y1, e1] := by
      rcases hdec with ⟨_, h⟩ | ⟨_, _, h⟩ | ⟨_, _, y, X, h, _⟩ <;> exact ⟨_, _, h⟩
    simp only [xP_ex0, xP_ex1]
    refine xE_call CF_22 (rdec_ok (k := kk) (n := nn) (by omega) (by omega) (by omega) hsl3 hpok3 (by omega) (by omega)) ?_
    rintro ru w4 ⟨hres, hk4⟩
    have hk34 := hk3.then hk4 (by simp)
    have hk04 := hk02.then hk34 (by simp)
    obtain ⟨y2, κ, rfl⟩ : ∃ y2 κ, ru = .tuple #[y2, .int .i64 κ] := by
      rcases hres with ⟨_, h⟩ | ⟨_, _, h⟩ | ⟨_, _, y, X, h, _⟩ <;> exact ⟨_, _, h⟩
    simp only [xP_ex0, xP_ex1]
    have hcase : (ps.findIdx (badPt nn ps) < ps.length ∧ y1 = .slice none 0 0 ∧ e1 = erV (.flt opCD (ps.findIdx (badPt nn ps) : Nat) (.no 2)) ∧ y2 = .slice none 0 0 ∧ κ = 2) ∨
        (ps.findIdx (badPt nn ps) = ps.length ∧ (chosenP kk ps).length < kk ∧ y1 = .slice none 0 0 ∧ e1 = erV (.flt opCD ((chosenP kk ps).length : Nat) (.no 3)) ∧ y2 = .slice none 0 0 ∧ κ = 3) ∨
        (ps.findIdx (badPt nn ps) = ps.length ∧ (chosenP kk ps).length = kk ∧ e1 = .nilIface ∧ κ = 0 ∧ ∃ X, X.length = kk ∧ (∀ b ∈ X, b.length = s0 ps) ∧ Sol kk (s0 ps) (fun j => X.getD j []) (ptR kk (chosenP kk ps)) ∧ RowsT w4 y1 X ∧ RowsT w4 y2 X) := by
      rcases hdec with ⟨c1, h⟩ | ⟨c1, c2, h⟩ | ⟨c1, c2, y, X, h, hX1, hX2, hX3, hX4⟩
      · rcases hres with ⟨d1, h'⟩ | ⟨d1, _⟩ | ⟨d1, _⟩
        · simp only [Value.tuple.injEq, Array.mk.injEq, List.cons.injEq, and_true, Value.int.injEq, true_and] at h h'
          exact .inl ⟨c1, h.1, h.2, h'.1, h'.2⟩
        · omega
        · omega
      · rcases hres with ⟨d1, _⟩ | ⟨_, d2, h'⟩ | ⟨_, d2, _⟩
        · omega
        · simp only [Value.tuple.injEq, Array.mk.injEq, List.cons.injEq, and_true, Value.int.injEq, true_and] at h h'
          exact .inr (.inl ⟨c1, c2, h.1, h.2, h'.1, h'.2⟩)
        · omega
      · rcases hres with ⟨d1, _⟩ | ⟨_, d2, _⟩ | ⟨_, _, z, Y, h', hY1, hY2, hY3, hY4⟩
        · omega
        · omega
        · simp only [Value.tuple.injEq, Array.mk.injEq, List.cons.injEq, and_true, Value.int.injEq, true_and] at h h'
          obtain rfl : X = Y := sol_same (by omega) (by omega) c1 c2 hX1 hX2 hY1 hY2 hX4 hY4
          exact .inr (.inr ⟨c1, c2, h.2, h'.2, X, hX1, hX2, hX4, by rw [h.1]; exact hX3.kept0 hk4, by rw [h'.1]; exact hY3⟩)
    clear hdec hres
    refine xJoin_of (fun ls w' => ls = [.bool false] ∧ Kept [] w4 w') ?_ ?_
    · rcases hcase with ⟨_, rfl, rfl, rfl, rfl⟩ | ⟨_, _, rfl, rfl, rfl, rfl⟩ | ⟨_, _, rfl, rfl, X, hX1, hX2, _, hX4, hX5⟩
      · refine sameS (A := []) (B := []) (RowsT.nil _) (RowsT.nil _) (by simp) (by simp) fun w5 hk5 => ?_
        simp only [decide_true, xP_not, Bool.not_true, xIf_false]
        refine kindR trivial (hg.kept0 (hk04.then hk5 (by simp))) fun w6 hk6 => ?_
        refine xR_neq.2 ?_
        simp only [Er.kind, ne_eq, not_true_eq_false, decide_false]
        exact ⟨by trivial, hk5.then hk6 (by simp)⟩
      · refine sameS (A := []) (B := []) (RowsT.nil _) (RowsT.nil _) (by simp) (by simp) fun w5 hk5 => ?_
        simp only [decide_true, xP_not, Bool.not_true, xIf_false]
        refine kindR trivial (hg.kept0 (hk04.then hk5 (by simp))) fun w6 hk6 => ?_
        refine xR_neq.2 ?_
        simp only [Er.kind, ne_eq, not_true_eq_false, decide_false]
        exact ⟨by trivial, hk5.then hk6 (by simp)⟩
      · refine sameS hX4 hX5 (by omega) (fun b hb => by rw [hX2 b hb]; omega) fun w5 hk5 => ?_
        simp only [decide_true, xP_not, Bool.not_true, xIf_false]
        refine xE_call CF_13 kindNil_ok ?_
        rintro _ w6 ⟨rfl, hk6⟩
        refine xR_neq.2 ?_
        simp only [ne_eq, not_true_eq_false, decide_false]
        exact ⟨by trivial, hk5.then hk6 (by simp)⟩
    rintro _ _ w5 ⟨rfl, hk5⟩
    simp only [List.getD_cons_zero, xIf_false]
    have hk25 := hk34.then hk5 (by simp)
    have hk05 := hk02.then hk25 (by simp)
    have hC5 := hC2.kept0 hk25
    by_cases hat : at_ < 0 ∨ (nn : Int) ≤ at_
    · refine xE_call CF_23 (rebuild_bad hC5 hat) ?_
      rintro _ w6 ⟨rfl, hk6⟩
      simp only [xP_ex0, xP_ex1]
      have hk06 := hk05.then hk6 (by simp)
      refine xJoin_of (fun ls w' => ls = [.bool true] ∧ w6 = w') ?_ ?_
      · simp only [xP_lss, xP_geq, xIf_dec]
        exact ⟨fun _ => ⟨by trivial, by trivial⟩, fun h => ⟨by rw [decide_eq_true (by omega)], by trivial⟩⟩
      rintro _ _ _ ⟨rfl, rfl⟩
      simp only [List.getD_cons_zero, xIf_true]
      refine kindR trivial (hg.kept0 hk06) fun w7 hk7 => ?_
      simp only [Er.kind, xR_eql, decide_true, xIf_true]
      refine (xP_len SL_32).2 ?_
      rw [show ((0 : Nat) : Int) = 0 from rfl]
      simp only [xR_eql, decide_true, xIf_true]
      exact cRunsG hg (hk06.then hk7 (by simp))
    · obtain ⟨a, rfl⟩ := Int.eq_ofNat_of_zero_le (show 0 ≤ at_ by omega)
      have han : a < nn := by omega
      refine xE_call CF_23 (rebuild_ok hC5 han (hsl.kept0 hk25) (hpok.kept0 hk25) (by omega) (by omega)) ?_
      rintro bu w6 ⟨hreb, hk6⟩
      have hk06 := hk05.then hk6 (by simp)
      have hk46 := hk5.then hk6 (by simp)
      obtain ⟨y3, e3, rfl⟩ : ∃ y3 e3, bu = .tuple #[y3, e3] := by
        rcases hreb with ⟨_, h⟩ | ⟨_, _, h⟩ | ⟨_, _, y, X, h, _⟩ <;> exact ⟨_, _, h⟩
      simp only [xP_ex0, xP_ex1]
      refine xJoin_of (fun ls w' => ls = [.bool false] ∧ w6 = w') ?_ ?_
      · simp only [xP_lss, xP_geq, xIf_dec]
        exact ⟨fun h => by omega, fun h => ⟨by rw [decide_eq_false (by omega)], by trivial⟩⟩
      rintro _ _ _ ⟨rfl, rfl⟩
      simp only [List.getD_cons_zero, xIf_false]
      rcases hcase with ⟨c1, rfl, rfl, rfl, rfl⟩ | ⟨c1, c2, rfl, rfl, rfl, rfl⟩ | ⟨c1, c2, rfl, rfl, X, hX1, hX2, hX3, hX4, hX5⟩
      · rcases hreb with ⟨_, h⟩ | ⟨d1, _⟩ | ⟨d1, _⟩
        rotate_left
        · omega
        · omega
        simp only [Value.tuple.injEq, Array.mk.injEq, List.cons.injEq, and_true] at h
        obtain ⟨rfl, rfl⟩ := h
        refine xR_neq.2 ?_
        rw [decide_eq_true (show (2 : Int) ≠ 0 by decide)]
        simp only [xIf_true]
        refine kindR trivial (hg.kept0 hk06) fun w7 hk7 => ?_
        simp only [Er.kind, xR_eql, decide_true, xIf_true]
        refine (xP_len SL_32).2 ?_
        rw [show ((0 : Nat) : Int) = 0 from rfl]
        simp only [xR_eql, decide_true, xIf_true]
        exact cRunsG hg (hk06.then hk7 (by simp))
      · rcases hreb with ⟨d1, _⟩ | ⟨_, _, h⟩ | ⟨_, d2, _⟩
        · omega
        rotate_left
        · omega
        simp only [Value.tuple.injEq, Array.mk.injEq, List.cons.injEq, and_true] at h
        obtain ⟨rfl, rfl⟩ := h
        refine xR_neq.2 ?_
        rw [decide_eq_true (show (3 : Int) ≠ 0 by decide)]
        simp only [xIf_true]
        refine kindR trivial (hg.kept0 hk06) fun w7 hk7 => ?_
        simp only [Er.kind, xR_eql, decide_true, xIf_true]
        refine (xP_len SL_32).2 ?_
        rw [show ((0 : Nat) : Int) = 0 from rfl]
        simp only [xR_eql, decide_true, xIf_true]
        exact cRunsG hg (hk06.then hk7 (by simp))
      · rcases hreb with ⟨d1, _⟩ | ⟨_, d2, _⟩ | ⟨_, _, y, Y, h, hY1, hY2, hY3, hY4⟩
        · omega
        · omega
        simp only [Value.tuple.injEq, Array.mk.injEq, List.cons.injEq, and_true] at h
        obtain ⟨rfl, rfl⟩ := h
        obtain rfl : X = Y := sol_same (by omega) (by omega) c1 c2 hX1 hX2 hY1 hY2 hX3 hY4
        refine xR_neq.2 ?_
        simp only [ne_eq, not_true_eq_false, decide_false, xIf_false]
        have hl0' : len0 X = s0 ps := by unfold len0; rw [getD_lt (by omega)]; exact hX2 _ (List.getElem_mem _)
        refine xE_call CF_19 (renc_ok (k := kk) (n := nn) (by omega) (by omega) (by omega) (hX5.kept0 hk46) (by omega) (by omega)) ?_
        rintro eu w7 ⟨hk7, hres⟩
        rw [(badB_good (by omega) hX1 hX2).1] at hres
        simp only at hres
        obtain ⟨z, rfl, hz⟩ := hres
        rw [hl0'] at hz
        simp only [xP_ex0, xP_ex1]
        refine (xR_eqlN IFE).2 ?_
        simp only [xIf_true]
        refine (rowsLen hz).2 ?_
        rw [encP_len]
        simp only [xR_eql, decide_true, xIf_true]
        refine hz.get rowW (Kept.refl _ _) (by rw [encP_len]; exact han) fun x hx => ?_
        rw [encP_get han] at hx
        refine xE_call CF_24 (sameB_ok (hY3.kept0 hk7) hx (by rw [mixP_len]; omega)) ?_
        rintro _ w8 ⟨rfl, hk8⟩
        simp only [decide_true, xIf_true]
        exact cRunsG hg ((hk06.then hk7 (by simp)).then hk8 (by simp))
end Go.Proofs.YtoanmeohlpdjfaaDoor
