import Derived.Test.YtoanmeohlpdjfaaDoorXcCode4
namespace Go.Proofs.YtoanmeohlpdjfaaDoor
set_option linter.unusedSimpArgs false
set_option linter.unusedVariables false
set_option maxRecDepth 100000
attribute [local irreducible] Go.X.xE
open Go Go.X Go.RowKit

/-! ## Parts -/
structure Pt where
  at_ : Int
  v : Value
  d : List UInt8
def encPt (q : Pt) : List Value := [.int .i64 q.at_, q.v]
theorem encPt_len (q : Pt) : (encPt q).length = 2 := rfl
theorem rowPt : RowB Tryd.prog 48 35 2 encPt (fun q => .agg (encPt q).toArray) := RowB.agg (by kernel_rfl) (by kernel_rfl) encPt_len (by kernel_rfl)
def PtsOk (w : World) (l : List Pt) : Prop := ∀ q ∈ l, SlT w encB q.v q.d
theorem PtsOk.kept0 {w w' : World} {l : List Pt} (h : PtsOk w l) (hk : Kept [] w w') : PtsOk w' l := fun q hq => (h q hq).kept0 hk
theorem SlT.oneP {w : World} {v : Value} {l : List UInt8} (h : SlT w encB v l) : v.oneCell' = true := by obtain ⟨a, c, rfl, _⟩ := h; rfl
theorem encPt_one {w : World} {q : Pt} (h : SlT w encB q.v q.d) : ∀ u ∈ encPt q, u.oneCell' = true := by
  intro u hu
  simp [encPt] at hu
  rcases hu with rfl | rfl
  · rfl
  · exact SlT.oneP h
/-- A part is read, and laid into a place of its own. -/
theorem takePt {v : Value} {l : List Pt} {i : Nat} {w w1 : World} {K : Value → World → Prop} (hl : SlT w encPt v l) (hp : PtsOk w l) (hk : Kept [] w w1) (hi : i < l.length)
    (k : ∀ w2, Blk w2 w1.heap.size 35 (encPt l[i]) → Kept [] w1 w2 → w2.heap.size = w1.heap.size + 1 → K (.pointer (some ⟨w1.heap.size, 0, none⟩)) w2) :
    xP Tryd.prog (sIA 48 v (.int .i64 i)) fun a => xR Tryd.prog (sLoad 35 a) w1 fun u => xE Tryd.prog (sAlloc 35) w1 fun p w2 => xE Tryd.prog (sStore 35 p u) w2 fun _ w3 => K p w3 := by
  refine (rowPt.get hl hk hi).2 ?_
  refine xE_alloc Z_35 fun w2 hb2 hk2 hz2 => ?_
  refine xE_storeN (l1 := []) (l2 := [.int .i64 0, .slice none 0 0]) (l3 := []) SZ_35 hb2 rfl rfl rfl (encPt_one (hp _ (List.getElem_mem hi))) fun w3 hb3 hk3 hz3 => ?_
  refine k w3 (by simpa [Value.cells] using hb3) (hk2.then hk3 (by simp)) (by omega)
/-! ## The first k of unlike places -/
def hasAt (out : List Pt) (a : Int) : Bool := out.any fun r => decide (r.at_ = a)
def pick (k : Nat) (out : List Pt) (q : Pt) : List Pt := if hasAt out q.at_ = true ∨ out.length = k then out else out ++ [q]
def chosenP (k : Nat) (l : List Pt) : List Pt := l.foldl (pick k) []
theorem pick_mem {k : Nat} {out : List Pt} {q r : Pt} (h : r ∈ pick k out q) : r ∈ out ∨ r = q := by
  unfold pick at h
  split at h
  · exact .inl h
  · rcases List.mem_append.1 h with h | h
    · exact .inl h
    · simp at h; exact .inr h
theorem fold_mem {k : Nat} : ∀ (l out : List Pt) {r : Pt}, r ∈ l.foldl (pick k) out → r ∈ out ∨ r ∈ l
  | [], _, _, h => .inl h
  | q :: l, out, r, h => by
    rcases fold_mem l _ h with h | h
    · exact (pick_mem h).imp id (fun (e : r = q) => by rw [e]; exact List.mem_cons_self)
    · exact .inr (List.mem_cons_of_mem _ h)
theorem chosen_mem {k : Nat} {l : List Pt} {r : Pt} (h : r ∈ chosenP k l) : r ∈ l := (fold_mem l [] h).resolve_left (by simp)
theorem fold_len {k : Nat} : ∀ (l out : List Pt), out.length ≤ k → (l.foldl (pick k) out).length ≤ k
  | [], _, h => h
  | q :: l, out, h => fold_len l _ (by
    unfold pick
    split
    · exact h
    · rw [List.length_append]; simp; omega)
theorem chosen_le (k : Nat) (l : List Pt) : (chosenP k l).length ≤ k := fold_len l [] (by simp)
theorem hasAt_false {out : List Pt} {a : Int} : hasAt out a = false ↔ ∀ r ∈ out, r.at_ ≠ a := by
  unfold hasAt
  simp [List.any_eq_false]
theorem fold_nd {k : Nat} : ∀ (l out : List Pt), (out.map Pt.at_).Nodup → ((l.foldl (pick k) out).map Pt.at_).Nodup
  | [], _, h => h
  | q :: l, out, h => fold_nd l _ (by
    unfold pick
    split
    · exact h
    · rename_i hn
      rw [not_or] at hn
      have := hasAt_false.1 (by simpa using hn.1)
      rw [List.map_append]
      refine List.nodup_append.2 ⟨h, by simp, fun a ha b hb e => ?_⟩
      simp at hb
      obtain ⟨r, hr, hra⟩ := List.mem_map.1 ha
      exact this r hr (by rw [hra, e, hb]))
theorem chosen_nd (k : Nat) (l : List Pt) : ((chosenP k l).map Pt.at_).Nodup := fold_nd l [] (by simp)
theorem chosen_take {k : Nat} {l : List Pt} {i : Nat} (hi : i < l.length) : chosenP k (l.take (i + 1)) = pick k (chosenP k (l.take i)) l[i] := by
  unfold chosenP
  rw [List.take_add_one, List.getElem?_eq_getElem hi, List.foldl_append]
  rfl
def metC (out : List Pt) : List Value := (List.range 8).map fun j => .int .i64 (if hasAt out (j : Nat) then 1 else 0)
theorem metC_get {out : List Pt} {t : Nat} (h : t < 8) : (metC out)[t]? = some (.int .i64 (if hasAt out (t : Nat) then 1 else 0)) := by
  unfold metC
  rw [List.getElem?_map, List.getElem?_range h]
  rfl
theorem metC_set {out : List Pt} {q : Pt} {t : Nat} (h : q.at_ = t) : (metC out).set t (.int .i64 1) = metC (out ++ [q]) := by
  apply List.ext_getElem?
  intro j
  rw [List.getElem?_set]
  have hl : (metC out).length = 8 := by simp [metC]
  by_cases hj : j < 8
  · rw [metC_get hj, metC_get hj, hl]
    have e : hasAt (out ++ [q]) (j : Nat) = (hasAt out (j : Nat) || decide ((t : Int) = (j : Nat))) := by
      unfold hasAt
      rw [List.any_append]
      simp [h]
    rw [e]
    by_cases htj : t = j
    · subst htj
      rw [if_pos rfl, if_pos hj]
      simp
    · rw [if_neg htj, decide_eq_false (by omega), Bool.or_false]
  · have h1 : (metC out)[j]? = none := List.getElem?_eq_none (by omega)
    have h2 : (metC (out ++ [q]))[j]? = none := List.getElem?_eq_none (by simp [metC]; omega)
    rw [h1, h2]
    split
    · rename_i e; subst e; rw [if_neg (by omega)]
    · rfl
theorem AR8 : arrB Tryd.prog 102 3 8 := by unfold arrB; kernel_rfl
theorem chosen_ok {p k n f : Nat} {cv v : Value} {l : List Pt} {w : World} (h : CodeIs w p k n f cv) (hl : SlT w encPt v l) (hp : PtsOk w l) (hat : ∀ q ∈ l, 0 ≤ q.at_ ∧ q.at_ < 8) (hll : l.length ≤ 1000000) :
    Gives Tryd.prog 35 #[.pointer (some ⟨p, 0, none⟩), v] w fun u w' => SlT w' encPt u (chosenP k l) ∧ Kept [] w w' := by
  refine C_code_Code_chosen ?_
  unfold S_code_Code_chosen
  have hn8 := h.n8
  have hkn := h.kn
  refine xE_alloc Z_102 fun w1 hb1 hk1 hz1 => ?_
  have hb1 : Blk w1 w.heap.size 102 (metC []) := hb1
  obtain ⟨la, lc, rfl, hlc, hlr⟩ := hl
  have hl : SlT w encPt (.slice la l.length lc) l := ⟨la, lc, rfl, hlc, hlr⟩
  simp only [xP_nil, xP_pick, xP_func, xP_not, xP_add, xP_sub, xP_mul, xP_lss, xP_leq, xP_gtr, xP_geq, xP_max2, xP_min2, xR_eql, xR_neq, Nat.zero_add, Nat.add_zero, Nat.reduceAdd, List.getD_cons_zero, List.getD_cons_succ, xIf_true, xIf_false, FA_35_0, FA_35_1, FA_66_0, FA_66_1, FA_66_2, FA_82_0, FA_82_1, FA_82_2, FA_86_0, FA_86_1, LEN_29, LEN_32, LEN_47, LEN_48, LEN_79, LEN_116]
  generalize hm : w.heap.size = mb at *
  refine xLoop_of (fun ls w' => ∃ (i : Nat) (o : Value) (G : List Nat), ls = [o, .int .i64 i] ∧ i ≤ l.length ∧ Own w' 35 2 o (chosenP k (l.take i)).length ((chosenP k (l.take i)).flatMap encPt) G ∧ Blk w' mb 102 (metC (chosenP k (l.take i))) ∧ (∀ g ∈ G, w1.heap.size ≤ g) ∧ Kept [] w w' ∧ w1.heap.size ≤ w'.heap.size)
    (fun ls _ => match ls with | [_, .int _ i] => l.length - i.toNat | _ => 0) ⟨0, _, [], rfl, by omega, own_nil _ _ _, hb1, by simp, hk1, Nat.le_refl _⟩ ?_
  rintro _ _ w2 ⟨i, o, G, rfl, hi, ho, hb2, hG, hk2, hz2⟩
  simp only [xP_nil, xP_pick, xP_func, xP_not, xP_add, xP_sub, xP_mul, xP_lss, xP_leq, xP_gtr, xP_geq, xP_max2, xP_min2, xR_eql, xR_neq, Nat.zero_add, Nat.add_zero, Nat.reduceAdd, List.getD_cons_zero, List.getD_cons_succ, xIf_true, xIf_false, FA_35_0, FA_35_1, FA_66_0, FA_66_1, FA_66_2, FA_82_0, FA_82_1, FA_82_2, FA_86_0, FA_86_1, LEN_29, LEN_32, LEN_47, LEN_48, LEN_79, LEN_116, xIf_dec]
  refine ⟨fun hlt => ?_, fun hge => ?_⟩
  · have hi1 : i < l.length := by omega
    have hq := hat _ (List.getElem_mem hi1)
    have hqok := hp _ (List.getElem_mem hi1)
    refine xJoin_of (fun ls w' => ∃ (o : Value) (G : List Nat), ls = [o] ∧ Own w' 35 2 o (chosenP k (l.take (i + 1))).length ((chosenP k (l.take (i + 1))).flatMap encPt) G ∧ Blk w' mb 102 (metC (chosenP k (l.take (i + 1)))) ∧ (∀ g ∈ G, w1.heap.size ≤ g) ∧ Kept [] w w' ∧ w1.heap.size ≤ w'.heap.size) ?_ ?_
    · refine takePt hl hp hk2 hi1 fun w3 hbp hk3 hz3 => ?_
      rw [chosen_take hi1]
      have hcl : (chosenP k (l.take i)).length ≤ k := chosen_le _ _
      generalize l[i] = q at *
      obtain ⟨a, qv, d⟩ := q
      obtain ⟨t, rfl⟩ := Int.eq_ofNat_of_zero_le hq.1
      have ht : t < 8 := by have := hq.2; simp at this; omega
      generalize chosenP k (l.take i) = out at *
      have hbp : Blk w3 w2.heap.size 35 [.int .i64 t, qv] := hbp
      have hb3 := hb2.kept hk3 (by simp)
      have ho3 := ho.kept hk3 (by simp)
      obtain ⟨L0, L1, L2⟩ := h.ld (hk2.then hk3 (by simp))
      obtain ⟨oa, oc, rfl, _, _⟩ := ho3.slice
      refine xJoin_of (fun ls w' => ls = [.bool (decide (hasAt out (t : Nat) = true ∨ out.length = k))] ∧ w3 = w') ?_ ?_
      · simp only [xP_nil, xP_pick, xP_func, xP_not, xP_add, xP_sub, xP_mul, xP_lss, xP_leq, xP_gtr, xP_geq, xP_max2, xP_min2, xR_eql, xR_neq, Nat.zero_add, Nat.add_zero, Nat.reduceAdd, List.getD_cons_zero, List.getD_cons_succ, xIf_true, xIf_false, FA_35_0, FA_35_1, FA_66_0, FA_66_1, FA_66_2, FA_82_0, FA_82_1, FA_82_2, FA_86_0, FA_86_1, LEN_29, LEN_32, LEN_47, LEN_48, LEN_79, LEN_116]
        refine (ld1 ONE_3 (v := .int .i64 t) (hbp.cell (o := 0))).2 ?_
        refine (xP_IAarr AR8 SZ_3 ht).2 ?_
        rw [Nat.zero_add, Nat.mul_one]
        refine (ld1 ONE_3 ((hb3.cell (o := t)).trans (metC_get ht))).2 ?_
        simp only [xP_nil, xP_pick, xP_func, xP_not, xP_add, xP_sub, xP_mul, xP_lss, xP_leq, xP_gtr, xP_geq, xP_max2, xP_min2, xR_eql, xR_neq, Nat.zero_add, Nat.add_zero, Nat.reduceAdd, List.getD_cons_zero, List.getD_cons_succ, xIf_true, xIf_false, FA_35_0, FA_35_1, FA_66_0, FA_66_1, FA_66_2, FA_82_0, FA_82_1, FA_82_2, FA_86_0, FA_86_1, LEN_29, LEN_32, LEN_47, LEN_48, LEN_79, LEN_116, L0, xIf_dec]
        cases hh : hasAt out (t : Nat) with
        | true => exact ⟨fun _ => ⟨by simp, trivial⟩, fun h => absurd (by simp) h⟩
        | false =>
          refine ⟨fun h => by simp at h, fun _ => ⟨?_, trivial⟩⟩
          rw [decide_eq_decide.2 (show ((out.length : Int) = (k : Nat)) ↔ (false = true ∨ out.length = k) by simp; omega)]
      rintro _ _ _ ⟨rfl, rfl⟩
      simp only [List.getD_cons_zero, xIf_dec]
      refine ⟨fun hskip => ?_, fun hnot => ?_⟩
      · rw [show pick k out ⟨(t : Nat), qv, d⟩ = out from if_pos hskip]
        exact ⟨_, G, rfl, ho3, hb3, hG, hk2.then hk3 (by simp), by omega⟩
      · rw [show pick k out ⟨(t : Nat), qv, d⟩ = out ++ [⟨(t : Nat), qv, d⟩] from if_neg hnot]
        simp only [xP_nil, xP_pick, xP_func, xP_not, xP_add, xP_sub, xP_mul, xP_lss, xP_leq, xP_gtr, xP_geq, xP_max2, xP_min2, xR_eql, xR_neq, Nat.zero_add, Nat.add_zero, Nat.reduceAdd, List.getD_cons_zero, List.getD_cons_succ, xIf_true, xIf_false, FA_35_0, FA_35_1, FA_66_0, FA_66_1, FA_66_2, FA_82_0, FA_82_1, FA_82_2, FA_86_0, FA_86_1, LEN_29, LEN_32, LEN_47, LEN_48, LEN_79, LEN_116]
        refine (ld1 ONE_3 (v := .int .i64 t) (hbp.cell (o := 0))).2 ?_
        refine (xP_IAarr AR8 SZ_3 ht).2 ?_
        rw [Nat.zero_add, Nat.mul_one]
        refine xE_store1 SZ_3 hb3 (by simp [metC]; omega) rfl fun w4 hb4 hk4 hz4 => ?_
        rw [metC_set (q := ⟨(t : Nat), qv, d⟩) rfl] at hb4
        have hmbl : mb < w1.heap.size := by omega
        have hbp4 := hbp.kept hk4 (by simp; omega)
        refine (ldN (l := [.int .i64 t, qv]) AGG_35 hbp4.at).2 ?_
        refine xE_buildSlice EL_48 [.agg #[.int .i64 t, qv]] rfl rfl (by simp [Value.cells]) (by omega) (by omega) fun w5 hb5 hk5 hz5 => ?_
        have hat5 : At w5 w4.heap.size 0 ([(⟨(t : Nat), qv, d⟩ : Pt)].flatMap encPt) := by
          have := hb5.at
          simpa [encPt, Value.cells] using this
        have hmG : mb ∉ G := fun hm => by have := hG mb hm; omega
        have ho5 := (ho3.kept hk4 (by simp; exact fun g hg e => hmG (e ▸ hg))).kept hk5 (by simp)
        refine xE_append (m := 1) EL_48 ho5 hat5 (by rw [flat_len encPt_len]; rfl) (by intro u hu; simp at hu; exact encPt_one (q := ⟨(t : Nat), qv, d⟩) hqok u hu) (by omega) (by unfold maxLen; omega) (by omega) fun o' w6 G' ho6 hk6 hG' _ => ?_
        have hz6 := hk6.size
        refine ⟨o', G', rfl, by rw [List.flatMap_append, List.length_append]; exact ho6, (hb4.kept hk5 (by simp)).kept hk6 hmG, fun g hg => (hG' g hg).elim (hG g) (fun h => by omega), (((hk2.then hk3 (by simp)).then hk4 (by simp; omega)).then hk5 (by simp)).then hk6 (fun g hg => .inr (by have := hG g hg; omega)), by omega⟩
    rintro _ _ w3 ⟨o', G', rfl, ho3, hb3, hG3, hk3, hz3⟩
    try simp only [xP_nil, xP_pick, xP_func, xP_not, xP_add, xP_sub, xP_mul, xP_lss, xP_leq, xP_gtr, xP_geq, xP_max2, xP_min2, xR_eql, xR_neq, Nat.zero_add, Nat.add_zero, Nat.reduceAdd, List.getD_cons_zero, List.getD_cons_succ, xIf_true, xIf_false, FA_35_0, FA_35_1, FA_66_0, FA_66_1, FA_66_2, FA_82_0, FA_82_1, FA_82_2, FA_86_0, FA_86_1, LEN_29, LEN_32, LEN_47, LEN_48, LEN_79, LEN_116]
    rw [wrap64 (by omega) (by omega)]
    exact ⟨⟨i + 1, o', G', rfl, by omega, ho3, hb3, hG3, hk3, hz3⟩, by omega⟩
  · obtain rfl : i = l.length := by omega
    rw [List.take_length] at ho
    exact ⟨ho.slT encPt_len (by omega), hk2⟩
end Go.Proofs.YtoanmeohlpdjfaaDoor
