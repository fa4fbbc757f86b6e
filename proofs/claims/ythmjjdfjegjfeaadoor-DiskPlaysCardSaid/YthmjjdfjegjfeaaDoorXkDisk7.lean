import Derived.Test.YthmjjdfjegjfeaaDoorXkDisk6
namespace Go.Proofs.YthmjjdfjegjfeaaDoor
set_option linter.unusedSimpArgs false
set_option linter.unusedVariables false
set_option maxRecDepth 100000
attribute [local irreducible] Go.X.xE
open Go Go.X Go.RowKit

/-! ## The document's own disk -/
theorem app128 {v : Value} {x : List UInt8} {w w2 : World} {g0 : Nat} {K : Value → World → Prop} (h : SlT w2 encB v x) (hx : x.length = 128) (ho : Own w2 5 1 (.slice (some ⟨g0, 0, none⟩) 0 0) 0 [] [g0]) (hk2 : Kept [] w w2) (hg0 : w.heap.size ≤ g0)
    (kk : ∀ (r : Rw) w3, r.Ok w3 → w.heap.size ≤ r.b → r.x = x → Kept [] w w3 → Kept [g0] w2 w3 → K r.v w3) : xE Tryd.prog (sB .append #[28, 28] #[.slice (some ⟨g0, 0, none⟩) 0 0, v]) w2 K := by
  refine xE_appendSrc EL_28 ho (Src.ofSlT (l := x) (e' := 5) (by kernel_rfl) h encB_len encB_one) (by omega) (by unfold maxLen; omega) fun u w3 F3 ho3 hk3 hF3 _ => ?_
  rw [Nat.zero_add, List.nil_append, hx] at ho3
  have hz := hk2.size
  rcases ho3.2 with ⟨_, h0, _⟩ | ⟨g, o, cap, cur, e, hF1, hr⟩
  · omega
  · refine kk ⟨u, g, x⟩ w3 ⟨hF1 ▸ ho3, hx⟩ ?_ rfl (hk2.then hk3 (by simp; exact hg0)) hk3
    have := hF3 g (by rw [hF1]; simp)
    rcases this with h | h
    · simp at h; show w.heap.size ≤ g; omega
    · show w.heap.size ≤ g; omega
def RI (w : World) (p : Nat) (D : Dk) (F : List Nat) : Prop := DkI 63 w p D F
theorem has_ok {p : Nat} {D : Dk} {F : List Nat} {i : Int} {w : World} (h : RI w p D F) : Gives Tryd.prog 42 #[.pointer (some ⟨p, 0, none⟩), .int .i64 i] w fun u w' => u = .bool (decide (0 ≤ i ∧ i < (D.sec.length : Int))) ∧ w = w' := by
  obtain ⟨lb, o, cap, wm, rm, S, W, R, h1, h2, rfl⟩ := h
  have hlen : S.length = D.sec.length := by rw [← h2.1, List.length_map]
  obtain ⟨L0, L1, L2, L3⟩ := h1.ld
  refine C_staveref1_Disk_has ?_
  unfold S_staveref1_Disk_has
  simp only [xP_geq, xIf_dec]
  refine ⟨fun h0 => ?_, fun h0 => ⟨by rw [decide_eq_false (by omega)], rfl⟩⟩
  simp only [xP_nil, xP_pick, xP_func, xP_not, xP_add, xP_sub, xP_mul, xP_lss, xP_leq, xP_gtr, xP_geq, xP_max2, xP_min2, xR_eql, xR_neq, Nat.zero_add, Nat.add_zero, Nat.reduceAdd, List.getD_cons_zero, List.getD_cons_succ, xIf_true, xIf_false, FA_44_0, FA_44_1, FA_44_2, FA_44_3, FA_44_4, FA_44_5, FA_63_0, FA_63_1, FA_63_2, FA_63_3, FA_71_0, FA_71_1, FA_71_2, FA_71_3, FA_81_2, LEN_28, LEN_40, LEN_46, LEN_59, LEN_106, L0]
  refine ⟨?_, rfl⟩
  rw [hlen, decide_eq_decide.2 (show (i < (D.sec.length : Int)) ↔ (0 ≤ i ∧ i < (D.sec.length : Int)) by omega)]
theorem hasS {p : Nat} {D : Dk} {F : List Nat} {i : Int} {w : World} {K : Value → World → Prop} (h : RI w p D F) (k : K (.bool (decide (0 ≤ i ∧ i < (D.sec.length : Int)))) w) : xE Tryd.prog (sCall 42 #[.pointer (some ⟨p, 0, none⟩), .int .i64 i]) w K :=
  xE_call CF_42 (has_ok h) (fun u w' ⟨e, e'⟩ => by subst e; subst e'; exact k)
theorem rnewD_ok {n : Int} {w : World} : Gives Tryd.prog 23 #[.int .i64 n] w fun u w' => Kept [] w w' ∧
    ((¬ (1 ≤ n ∧ n ≤ 128) ∧ u = .tuple #[.pointer none, .int .i64 1]) ∨ (1 ≤ n ∧ n ≤ 128 ∧ ∃ p F, u = .tuple #[.pointer (some ⟨p, 0, none⟩), .int .i64 0] ∧ RI w' p (Dk.new n.toNat) F ∧ ∀ g ∈ F, w.heap.size ≤ g)) := by
  refine C_staveref1_NewDisk ?_
  unfold S_staveref1_NewDisk
  refine xJoin_of (fun ls w' => ls = [.bool (decide (¬ (1 ≤ n ∧ n ≤ 128)))] ∧ w = w') ?_ ?_
  · simp only [xP_lss, xP_gtr, xIf_dec]
    exact ⟨fun a => ⟨by rw [decide_eq_true (show ¬ (1 ≤ n ∧ n ≤ 128) by omega)], trivial⟩, fun a => ⟨by rw [decide_eq_decide.2 (show (128 < n) ↔ ¬ (1 ≤ n ∧ n ≤ 128) by omega)], trivial⟩⟩
  rintro _ _ _ ⟨rfl, rfl⟩
  simp only [List.getD_cons_zero, xIf_dec]
  refine ⟨fun hbad => ⟨Kept.refl _ _, .inl ⟨hbad, rfl⟩⟩, fun hgood => ?_⟩
  have hgood : 1 ≤ n ∧ n ≤ 128 := by omega
  obtain ⟨m, rfl⟩ := Int.eq_ofNat_of_zero_le (show 0 ≤ n by omega)
  refine xE_makeMap (val := fun r : Rw => r.v) MP_60 (.inl rfl) fun w1 hm1 hk1 hz1 => ?_
  refine xE_makeMap (val := Value.bool) MP_61 (.inl rfl) fun w2 hm2 hk2 hz2 => ?_
  refine (xP_build (cells := #[.slice none 0 0, .map (some w.heap.size), .map (some w1.heap.size), .bool false]) (by kernel_rfl)).2 ?_
  refine xE_box fun w3 hb3 hk3 hz3 => ?_
  have hb3 : Blk w3 w2.heap.size 63 [.slice none 0 0, .map (some w.heap.size), .map (some w1.heap.size), .bool false] := hb3
  have hm1' := (hm1.kept hk2 (by simp)).kept hk3 (by simp)
  have hm2' := hm2.kept hk3 (by simp)
  have hk03 := (hk1.then hk2 (by simp)).then hk3 (by simp)
  generalize hP : w2.heap.size = p at *
  generalize hQ : w1.heap.size = rm at *
  generalize hR : w.heap.size = wm at *
  refine xLoop_of (fun ls w' => ∃ (i : Nat) (lv : Value) (S : List Rw) (G : List Nat), ls = [.int .i64 i] ∧ i ≤ m ∧ S.length = i ∧ Blk w' p 63 [lv, .map (some wm), .map (some rm), .bool false] ∧ Own w' 28 1 lv S.length (S.map Rw.v) G ∧ MapOf w' wm (fun r : Rw => r.v) [] ∧ MapOf w' rm Value.bool [] ∧
      (∀ r ∈ S, r.Ok w' ∧ w3.heap.size ≤ r.b ∧ r.x = noughts) ∧ (S.map Rw.b).Nodup ∧ (∀ g ∈ G, w3.heap.size ≤ g ∧ ∀ r ∈ S, r.b ≠ g) ∧ Kept [p] w3 w')
    (fun ls _ => match ls with | [.int _ i] => m - i.toNat | _ => 0) ⟨0, _, [], [], rfl, by omega, rfl, hb3, own_nil _ _ _, hm1', hm2', by simp, by simp, by simp, Kept.refl _ _⟩ ?_
  rintro _ _ w4 ⟨i, lv, S, G, rfl, hi, hS, hb4, ho4, hmw4, hmr4, hok4, hnd4, hG4, hk4⟩
  have hz4 := hk4.size
  simp only [xP_nil, xP_pick, xP_func, xP_not, xP_add, xP_sub, xP_mul, xP_lss, xP_leq, xP_gtr, xP_geq, xP_max2, xP_min2, xR_eql, xR_neq, Nat.zero_add, Nat.add_zero, Nat.reduceAdd, List.getD_cons_zero, List.getD_cons_succ, xIf_true, xIf_false, FA_44_0, FA_44_1, FA_44_2, FA_44_3, FA_44_4, FA_44_5, FA_63_0, FA_63_1, FA_63_2, FA_63_3, FA_71_0, FA_71_1, FA_71_2, FA_71_3, FA_81_2, LEN_28, LEN_40, LEN_46, LEN_59, LEN_106, xIf_dec]
  refine ⟨fun hlt => ?_, fun hge => ?_⟩
  · have hd := kept_drew [] w4
    have hzd : w4.drew.heap.size = w4.heap.size := rfl
    refine (ld1 ONE_59 ((hb4.kept hd (by simp)).cell (o := 0))).2 ?_
    refine makeRow fun r w5 hr hrb hrx hk5 hz5 => ?_
    have hk45 := hd.then hk5 (by simp)
    refine (still1 ONE_59 ((hb4.kept hk45 (by simp)).cell (o := 0))).2 ?_
    refine xE_buildSlice EL_59 [r.v] rfl rfl (by intro v hv; simp at hv; subst hv; have := hr.one; obtain ⟨o, c, e⟩ := hr.some; rw [e]; rfl) (by omega) (by omega) fun w6 hb6 hk6 hz6 => ?_
    have hk46 := hk45.then hk6 (by simp)
    refine (still1 ONE_59 ((hb4.kept hk46 (by simp)).cell (o := 0))).2 ?_
    have hat : At w6 w5.heap.size 0 [r.v] := by
      have := hb6.at
      obtain ⟨o, c, e⟩ := hr.some
      rw [e] at this ⊢
      simpa [Value.cells] using this
    refine xE_append (m := 1) EL_59 (ho4.kept hk46 (by simp)) hat rfl (by intro u hu; simp at hu; subst hu; exact hr.one) (by omega) (by unfold maxLen; omega) (by omega) fun lv' w7 G' ho7 hk7 hG7 hone7 => ?_
    have hpG : p ∉ G := fun hm => by have := (hG4 p hm).1; omega
    have hb7 := (hb4.kept hk46 (by simp)).kept hk7 hpG
    refine xE_store1 SZ_59 hb7 (by simp) hone7 fun w8 hb8 hk8 hz8 => ?_
    have hb8 : Blk w8 p 63 [lv', .map (some wm), .map (some rm), .bool false] := by simpa using hb8
    rw [wrap64 (by omega) (by omega)]
    have hz46 := hk46.size
    have hz7 := hk7.size
    have hGnew : ∀ g ∈ G', w3.heap.size ≤ g ∧ ∀ r' ∈ S ++ [r], r'.b ≠ g := by
      intro g hg
      rcases hG7 g hg with h | h
      · refine ⟨(hG4 g h).1, fun r' hr' => ?_⟩
        rcases List.mem_append.1 hr' with hr' | hr'
        · exact (hG4 g h).2 r' hr'
        · simp at hr'; subst hr'
          have := ho4.lt g h
          omega
      · refine ⟨by omega, fun r' hr' => ?_⟩
        rcases List.mem_append.1 hr' with hr' | hr'
        · have := (hok4 r' hr').1.lt
          omega
        · simp at hr'; subst hr'
          omega
    have hkx : Kept (p :: G) w4 w8 := ((hk46.mono (by simp)).then (hk7.mono (fun g hg => .inl (List.mem_cons_of_mem _ hg))) (fun g hg => .inl hg)).then hk8 (fun g hg => .inl (by simp at hg; subst hg; exact List.mem_cons_self))
    refine ⟨⟨i + 1, lv', S ++ [r], G', rfl, by omega, by simp [hS], hb8, ?_, hmw4.kept hkx (by simp; exact ⟨by omega, fun hm => by have := (hG4 wm hm).1; omega⟩), hmr4.kept hkx (by simp; exact ⟨by omega, fun hm => by have := (hG4 rm hm).1; omega⟩), fun r' hr' => ?_, ?_, hGnew, hk4.then hkx (fun g hg => ?_)⟩, by omega⟩
    · rw [List.length_append, List.map_append]
      exact ho7.kept hk8 (fun g hg hm => by simp at hm; subst hm; have := (hGnew _ hg).1; omega)
    · rcases List.mem_append.1 hr' with hr' | hr'
      · obtain ⟨a1, a2, a3⟩ := hok4 r' hr'
        exact ⟨a1.kept hkx (fun hm => by rcases List.mem_cons.1 hm with h | h; · omega
                                         · exact (hG4 _ h).2 r' hr' rfl), a2, a3⟩
      · simp at hr'; subst hr'
        exact ⟨((hr.kept hk6 (by simp)).kept hk7 (fun hm => by have := ho4.lt _ hm; omega)).kept hk8 (by simp; omega), by omega, hrx⟩
    · rw [List.map_append]
      refine List.nodup_append.2 ⟨hnd4, by simp, fun a ha b hb => ?_⟩
      simp at hb
      subst hb
      obtain ⟨r', hr', rfl⟩ := List.mem_map.1 ha
      have := (hok4 r' hr').1.lt
      omega
    · rcases List.mem_cons.1 hg with rfl | hg
      · exact .inl (by simp)
      · exact .inr (hG4 g hg).1
  · obtain rfl : i = m := by omega
    have hSi := hS
    rcases ho4.2 with ⟨_, h0, _⟩ | ⟨lb, o, cap, cur, rfl, rfl, hown⟩
    · omega
    have hlb := hG4 lb (by simp)
    refine ⟨hk03.then hk4 (by simp; omega), .inr ⟨hgood.1, hgood.2, p, _, rfl, ⟨lb, o, cap, wm, rm, S, [], [], ⟨hb4, ho4, hmw4, hmr4, fun r hr => (hok4 r hr).1, by simp, ?_, by omega, by omega⟩, ⟨?_, fun _ => rfl, fun _ => rfl⟩, rfl⟩, fun g hg => ?_⟩⟩
    · refine frm_split.2 ⟨⟨by omega, by omega, by omega, by omega, by omega, by omega⟩, fun b hb => ⟨fun r hr => ?_, by simp⟩, hnd4, by simp, by simp⟩
      have h5 := (hok4 r hr).2.1
      simp at hb
      rcases hb with rfl | rfl | rfl | rfl
      · omega
      · exact hlb.2 r hr
      · omega
      · omega
    · show S.map Rw.x = List.replicate (Int.toNat (i : Int)) noughts
      rw [Int.toNat_natCast, List.eq_replicate_iff]
      refine ⟨by simp [hS], fun x hx => ?_⟩
      obtain ⟨r, hr, rfl⟩ := List.mem_map.1 hx
      exact (hok4 r hr).2.2
    · unfold frm at hg
      simp at hg
      rcases hg with rfl | rfl | rfl | rfl | ⟨r, hr, rfl⟩
      · omega
      · omega
      · omega
      · omega
      · have := (hok4 r hr).2.1; omega
/-- A row that is written, and waits. -/
theorem Mid.wrote {T : TypeId} {w w0 : World} {p lb o cap wm rm : Nat} {S : List Rw} {W : List (Int × Rw)} {R : List (Int × Bool)} {D : Dk} {n : Nat} {r : Rw} (h : Mid T w p lb o cap wm rm S W R (S.map Rw.v) D.dead) (ha : Abs S W R D) (hn : n < S.length) (hr : r.Ok w) (hfr : ∀ g ∈ frm p lb wm rm S W, g < r.b) (h0 : w0.heap.size ≤ r.b) {K : World → Prop}
    (k : ∀ w' F', DkI T w' p (D.write n r.x) F' → Kept [wm] w w' → (∀ g ∈ F', g ∈ frm p lb wm rm S W ∨ w0.heap.size ≤ g) → K w') :
    xE Tryd.prog (sMapUpdate 60 (.map (some wm)) (.int .i64 n) r.v) w fun _ w' => K w' := by
  refine xE_mapUpdate MP_60 h.mw (v := r) rfl fun w3 hm3 hk3 hz3 => ?_
  have hnd := frm_split.1 h.nd
  refine k w3 (frm p lb wm rm S (mset W (n : Int) r)) ⟨lb, o, cap, wm, rm, S, mset W (n : Int) r, R, ⟨h.blk.kept hk3 (by simp; exact hnd.1.2.1), h.own.kept hk3 (by simp; exact hnd.1.2.2.2.1), hm3, h.mr.kept hk3 (by simp; exact fun e => hnd.1.2.2.2.2.2 e.symm), fun r' hr' => (h.rs r' hr').kept hk3 (by simp; exact (hnd.2.1 wm (by simp)).1 r' hr'), fun q hq => ?_, ?_, h.pos, h.le⟩, ⟨ha.1, fun j => ?_, ha.2.2⟩, rfl⟩ hk3 (fun g hg => ?_)
  · rcases mset_mem hq with rfl | hq
    · have := hfr wm (by simp [frm])
      exact ⟨hr.kept hk3 (by simp; omega), by simp, by simp; omega⟩
    · exact ⟨(h.rw q hq).1.kept hk3 (by simp; exact (hnd.2.1 wm (by simp)).2 q hq), (h.rw q hq).2⟩
  · refine frm_split.2 ⟨hnd.1, fun b' hb' => ⟨(hnd.2.1 b' hb').1, fun q hq => ?_⟩, hnd.2.2.1, mset_nd hnd.2.2.2.1 ?_, fun r' hr' q hq => ?_⟩
    · rcases mset_mem hq with rfl | hq
      · have := hfr b' (by simp at hb'; rcases hb' with rfl | rfl | rfl | rfl <;> simp [frm])
        show r.b ≠ b'
        omega
      · exact (hnd.2.1 b' hb').2 q hq
    · intro hm
      obtain ⟨q, hq, he⟩ := List.mem_map.1 hm
      have := hfr q.2.b (by unfold frm; simp; exact .inr (.inr (.inr (.inr (.inr ⟨_, _, hq, rfl⟩)))))
      simp at he
      omega
    · rcases mset_mem hq with rfl | hq
      · have := hfr r'.b (by unfold frm; simp; exact .inr (.inr (.inr (.inr (.inl ⟨r', hr', rfl⟩)))))
        show r'.b ≠ r.b
        omega
      · exact hnd.2.2.2.2 r' hr' q hq
  · rw [mget_set]
    unfold Dk.write
    simp only
    by_cases hj : j = n
    · subst hj
      rw [if_pos rfl, if_pos rfl]
      rfl
    · rw [if_neg (by omega), if_neg hj]
      exact ha.2.1 j
  · unfold frm at hg ⊢
    simp only [List.mem_cons, List.mem_append, List.mem_map] at hg ⊢
    rcases hg with hg | hg | hg | hg | hg | ⟨q, hq, rfl⟩
    · exact .inl (.inl hg)
    · exact .inl (.inr (.inl hg))
    · exact .inl (.inr (.inr (.inl hg)))
    · exact .inl (.inr (.inr (.inr (.inl hg))))
    · exact .inl (.inr (.inr (.inr (.inr (.inl hg)))))
    · rcases mset_mem hq with rfl | hq
      · exact .inr h0
      · exact .inl (.inr (.inr (.inr (.inr (.inr ⟨q, hq, rfl⟩)))))
theorem rwriteD_ok {p : Nat} {D : Dk} {F : List Nat} {i : Int} {bv : Value} {b : List UInt8} {w : World} (h : RI w p D F) (hb : SlT w encB bv b) :
    Gives Tryd.prog 25 #[.pointer (some ⟨p, 0, none⟩), .int .i64 i, bv] w fun u w' => ∃ F', u = .int .i64 (D.refK i (decide (b.length ≠ 128))) ∧ RI w' p (if D.refK i (decide (b.length ≠ 128)) = 0 then D.write i.toNat b else D) F' ∧ Kept F w w' ∧ ∀ g ∈ F', g ∈ F ∨ w.heap.size ≤ g := by
  refine C_staveref1_Disk_Write ?_
  unfold S_staveref1_Disk_Write
  obtain ⟨ba, bc, rfl, hbc, hbr⟩ := hb
  have hb : SlT w encB (.slice ba b.length bc) b := ⟨ba, bc, rfl, hbc, hbr⟩
  have h' := h
  obtain ⟨lb, o, cap, wm, rm, S, W, R, h1, h2, rfl⟩ := h
  have hlt := h1.lt
  have hsl : S.length = D.sec.length := by rw [← h2.1, List.length_map]
  obtain ⟨L0, L1, L2, L3⟩ := h1.ld
  simp only [xP_nil, xP_pick, xP_func, xP_not, xP_add, xP_sub, xP_mul, xP_lss, xP_leq, xP_gtr, xP_geq, xP_max2, xP_min2, xR_eql, xR_neq, Nat.zero_add, Nat.add_zero, Nat.reduceAdd, List.getD_cons_zero, List.getD_cons_succ, xIf_true, xIf_false, FA_44_0, FA_44_1, FA_44_2, FA_44_3, FA_44_4, FA_44_5, FA_63_0, FA_63_1, FA_63_2, FA_63_3, FA_71_0, FA_71_1, FA_71_2, FA_71_3, FA_81_2, LEN_28, LEN_40, LEN_46, LEN_59, LEN_106, L3]
  unfold Dk.refK
  cases hdd : D.dead with
  | true =>
    simp only [xIf_true, if_true, show ((5 : Int) = 0) = False by simp, if_false]
    exact ⟨_, rfl, h', Kept.refl _ _, fun g hg => .inl hg⟩
  | false =>
    simp only [xIf_false, Bool.false_eq_true, if_false]
    refine xJoin_of (fun ls w' => ls = [.bool (decide (decide (b.length ≠ 128) = true ∨ i < 0 ∨ (D.sec.length : Int) ≤ i))] ∧ w = w') ?_ ?_
    · refine hasS h' ?_
      simp only [xP_not]
      rw [xIf_bool]
      refine ⟨fun hh => ?_, fun hh => ?_⟩
      · have hh : ¬ (0 ≤ i ∧ i < (D.sec.length : Int)) := by simp at hh; omega
        exact ⟨by rw [decide_eq_true (show _ ∨ _ from .inr (by omega))], trivial⟩
      · have hh : 0 ≤ i ∧ i < (D.sec.length : Int) := by simpa using hh
        try simp only [xP_nil, xP_pick, xP_func, xP_not, xP_add, xP_sub, xP_mul, xP_lss, xP_leq, xP_gtr, xP_geq, xP_max2, xP_min2, xR_eql, xR_neq, Nat.zero_add, Nat.add_zero, Nat.reduceAdd, List.getD_cons_zero, List.getD_cons_succ, xIf_true, xIf_false, FA_44_0, FA_44_1, FA_44_2, FA_44_3, FA_44_4, FA_44_5, FA_63_0, FA_63_1, FA_63_2, FA_63_3, FA_71_0, FA_71_1, FA_71_2, FA_71_3, FA_81_2, LEN_28, LEN_40, LEN_46, LEN_59, LEN_106]
        refine ⟨?_, trivial⟩
        rw [decide_eq_decide.2 (show (((b.length : Nat) : Int) ≠ 128) ↔ (decide (b.length ≠ 128) = true ∨ i < 0 ∨ (D.sec.length : Int) ≤ i) by rw [decide_eq_true_iff]; omega)]
    rintro _ _ _ ⟨rfl, rfl⟩
    simp only [List.getD_cons_zero, xIf_dec]
    refine ⟨fun hbad => ?_, fun hgood => ?_⟩
    · rw [if_pos hbad]
      simp only [show ((1 : Int) = 0) = False by simp, if_false]
      exact ⟨_, rfl, h', Kept.refl _ _, fun g hg => .inl hg⟩
    · rw [if_neg hgood]
      simp only [if_true]
      rw [decide_eq_true_iff] at hgood
      obtain ⟨n, rfl⟩ := Int.eq_ofNat_of_zero_le (show 0 ≤ i by omega)
      rw [Int.toNat_natCast]
      have hd := kept_drew [] w
      have hzd : w.drew.heap.size = w.heap.size := rfl
      obtain ⟨M0, M1, M2, M3⟩ := (h1.kept0 hd).ld
      simp only [xP_nil, xP_pick, xP_func, xP_not, xP_add, xP_sub, xP_mul, xP_lss, xP_leq, xP_gtr, xP_geq, xP_max2, xP_min2, xR_eql, xR_neq, Nat.zero_add, Nat.add_zero, Nat.reduceAdd, List.getD_cons_zero, List.getD_cons_succ, xIf_true, xIf_false, FA_44_0, FA_44_1, FA_44_2, FA_44_3, FA_44_4, FA_44_5, FA_63_0, FA_63_1, FA_63_2, FA_63_3, FA_71_0, FA_71_1, FA_71_2, FA_71_3, FA_81_2, LEN_28, LEN_40, LEN_46, LEN_59, LEN_106, M1]
      refine xE_slice0 EL_28 fun w1 ho1 hk1 hz1 => ?_
      have hk01 := hd.then hk1 (by simp)
      refine (still1 ONE_60 ((h1.kept0 hk01).blk.cell (o := 1))).2 ?_
      refine app128 (w := w) (hb.kept0 hk01) (by omega) ho1 hk01 (Nat.le_refl _) fun r w2 hr hrb hrx hk02 _ => ?_
      have hm2 := h1.kept0 hk02
      refine (still1 ONE_60 (hm2.blk.cell (o := 1))).2 ?_
      refine hm2.wrote (w0 := w) h2 (by omega) hr (fun g hg => by have := hlt g hg; omega) hrb fun w3 F' hD hk3 hF' => ?_
      rw [hrx] at hD
      exact ⟨F', rfl, hD, (hk02.mono (by simp)).then hk3 (fun g hg => .inl (by simp at hg; subst hg; simp [frm])), hF'⟩
theorem rreadD_ok {p : Nat} {D : Dk} {F : List Nat} {i : Int} {w : World} (h : RI w p D F) :
    Gives Tryd.prog 32 #[.pointer (some ⟨p, 0, none⟩), .int .i64 i] w fun u w' => ∃ v, u = .tuple #[v, .int .i64 (D.refK i false)] ∧ SlT w' encB v (if D.refK i false = 0 then D.read i.toNat else []) ∧ Kept [] w w' := by
  refine C_staveref1_Disk_Read ?_
  unfold S_staveref1_Disk_Read
  have h' := h
  obtain ⟨lb, o, cap, wm, rm, S, W, R, h1, h2, rfl⟩ := h
  have hsl : S.length = D.sec.length := by rw [← h2.1, List.length_map]
  obtain ⟨L0, L1, L2, L3⟩ := h1.ld
  simp only [xP_nil, xP_pick, xP_func, xP_not, xP_add, xP_sub, xP_mul, xP_lss, xP_leq, xP_gtr, xP_geq, xP_max2, xP_min2, xR_eql, xR_neq, Nat.zero_add, Nat.add_zero, Nat.reduceAdd, List.getD_cons_zero, List.getD_cons_succ, xIf_true, xIf_false, FA_44_0, FA_44_1, FA_44_2, FA_44_3, FA_44_4, FA_44_5, FA_63_0, FA_63_1, FA_63_2, FA_63_3, FA_71_0, FA_71_1, FA_71_2, FA_71_3, FA_81_2, LEN_28, LEN_40, LEN_46, LEN_59, LEN_106, L3]
  unfold Dk.refK
  cases hdd : D.dead with
  | true =>
    simp only [xIf_true, if_true, show ((5 : Int) = 0) = False by simp, if_false]
    exact ⟨_, rfl, SlT.nil_ _ _, Kept.refl _ _⟩
  | false =>
    simp only [xIf_false, Bool.false_eq_true, if_false, false_or]
    refine hasS h' ?_
    simp only [xP_not]
    rw [xIf_bool]
    refine ⟨fun hh => ?_, fun hh => ?_⟩
    · have hh : ¬ (0 ≤ i ∧ i < (D.sec.length : Int)) := by simp at hh; omega
      rw [if_pos (by omega)]
      simp only [show ((1 : Int) = 0) = False by simp, if_false]
      exact ⟨_, rfl, SlT.nil_ _ _, Kept.refl _ _⟩
    · have hh : 0 ≤ i ∧ i < (D.sec.length : Int) := by simpa using hh
      rw [if_neg (by omega)]
      simp only [if_true]
      obtain ⟨n, rfl⟩ := Int.eq_ofNat_of_zero_le hh.1
      rw [Int.toNat_natCast]
      have hn : n < S.length := by omega
      simp only [xP_nil, xP_pick, xP_func, xP_not, xP_add, xP_sub, xP_mul, xP_lss, xP_leq, xP_gtr, xP_geq, xP_max2, xP_min2, xR_eql, xR_neq, Nat.zero_add, Nat.add_zero, Nat.reduceAdd, List.getD_cons_zero, List.getD_cons_succ, xIf_true, xIf_false, FA_44_0, FA_44_1, FA_44_2, FA_44_3, FA_44_4, FA_44_5, FA_63_0, FA_63_1, FA_63_2, FA_63_3, FA_71_0, FA_71_1, FA_71_2, FA_71_3, FA_81_2, LEN_28, LEN_40, LEN_46, LEN_59, LEN_106, L1]
      refine (xR_lookupOk MP_60 h1.mw Z_28).2 ?_
      simp only [xP_ex0, xP_ex1]
      have hw := h2.2.1 n
      unfold Dk.read
      rw [← hw]
      cases hm : mget W (n : Int) with
      | some r =>
        simp only [Option.isSome_some, xIf_true, Option.map_some, Option.getD_some]
        have hr := (h1.rw _ (mget_mem hm)).1
        refine xE_slice0 EL_28 fun w1 ho1 hk1 hz1 => ?_
        refine app128 (w := w) (hr.slT.kept0 hk1) hr.len ho1 hk1 (Nat.le_refl _) fun r' w2 hr' _ hx' hk2 _ => ?_
        exact ⟨r'.v, rfl, by rw [← hx']; exact hr'.slT, hk2⟩
      | none =>
        simp only [Option.isSome_none, xIf_false, Option.map_none, Option.getD_none]
        refine xE_slice0 EL_28 fun w1 ho1 hk1 hz1 => ?_
        have h3 := h1.kept0 hk1
        obtain ⟨M0, M1, M2, M3⟩ := h3.ld
        simp only [M0]
        have hel : (S.map Rw.v)[n]? = some (S[n]).v := by rw [List.getElem?_map, List.getElem?_eq_getElem hn]; rfl
        refine (h3.elem hel).2 ?_
        have hr := h3.rs _ (List.getElem_mem hn)
        have hx : D.sec.getD n [] = (S[n]).x := by rw [← h2.1, List.getD_eq_getElem?_getD, List.getElem?_map, List.getElem?_eq_getElem hn]; rfl
        refine app128 (w := w) hr.slT hr.len ho1 hk1 (Nat.le_refl _) fun r' w2 hr' _ hx' hk2 _ => ?_
        exact ⟨r'.v, rfl, by rw [hx, ← hx']; exact hr'.slT, hk2⟩
theorem keep_ok {w : World} {p lb o cap wm rm : Nat} {S : List Rw} {W : List (Int × Rw)} {R : List (Int × Bool)} {C : List Value} {dead : Bool} (h : Mid 63 w p lb o cap wm rm S W R C dead) {i : Nat} :
    Gives Tryd.prog 43 #[.pointer (some ⟨p, 0, none⟩), .int .i64 i] w fun _ w' => Mid 63 w' p lb o cap wm rm S W (if (mget W (i : Int)).isSome then mset R (i : Int) false else R) (match mget W (i : Int) with | some r => C.set i r.v | none => C) dead ∧ Kept [lb, rm] w w' := by
  obtain ⟨L0, L1, L2, L3⟩ := h.ld
  refine C_staveref1_Disk_keep ?_
  unfold S_staveref1_Disk_keep
  simp only [xP_nil, xP_pick, xP_func, xP_not, xP_add, xP_sub, xP_mul, xP_lss, xP_leq, xP_gtr, xP_geq, xP_max2, xP_min2, xR_eql, xR_neq, Nat.zero_add, Nat.add_zero, Nat.reduceAdd, List.getD_cons_zero, List.getD_cons_succ, xIf_true, xIf_false, FA_44_0, FA_44_1, FA_44_2, FA_44_3, FA_44_4, FA_44_5, FA_63_0, FA_63_1, FA_63_2, FA_63_3, FA_71_0, FA_71_1, FA_71_2, FA_71_3, FA_81_2, LEN_28, LEN_40, LEN_46, LEN_59, LEN_106, L1]
  refine (xR_lookupOk MP_60 h.mw Z_28).2 ?_
  simp only [xP_ex0, xP_ex1]
  cases hm : mget W (i : Int) with
  | none =>
    simp only [Option.isSome_none, xIf_false, Bool.false_eq_true, if_false]
    exact ⟨h, Kept.refl _ _⟩
  | some r =>
    simp only [Option.isSome_some, xIf_true, Option.map_some, Option.getD_some, if_true]
    have hr := h.rw _ (mget_mem hm)
    have hi : i < S.length := by have := hr.2.2; simp at this; omega
    have hd := kept_drew [] w
    have h1 := h.kept0 hd
    obtain ⟨M0, M1, M2, M3⟩ := h1.ld
    simp only [M0, M2]
    refine h1.put hi (h1.rw _ (mget_mem hm)).1.one fun w2 h2 hk2 => ?_
    refine xE_mapEntry MP_61 h2.mr ZB (v := false) rfl fun w3 hm3 hk3 hz3 => ?_
    exact ⟨h2.rotm hm3 hk3, ((hd.mono (by simp)).then hk2 (by simp)).then hk3 (by simp)⟩
/-- What keep leaves, where some of the sectors have what waits. -/
theorem keep_mix {S : List Rw} {W : List (Int × Rw)} {s : Nat → Bool} {i : Nat} : (match mget W (i : Int) with | some r => ((mixS S W s).map Rw.v).set i r.v | none => (mixS S W s).map Rw.v) = (mixS S W fun j => s j || decide (j = i)).map Rw.v := by
  cases hm : mget W (i : Int) with
  | some r => exact mixS_set hm
  | none =>
    apply List.ext_getElem?
    intro j
    simp only
    rw [List.getElem?_map, List.getElem?_map, mixS_get, mixS_get]
    by_cases hj : j = i
    · subst hj
      rw [hm]
      cases S[j]? with
      | none => rfl
      | some r => simp
    · simp [hj]
end Go.Proofs.YthmjjdfjegjfeaaDoor
