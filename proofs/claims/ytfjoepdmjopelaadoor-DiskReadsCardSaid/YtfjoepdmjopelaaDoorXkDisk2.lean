import Derived.Test.YtfjoepdmjopelaaDoorXkDisk1
namespace Go.Proofs.YtfjoepdmjopelaaDoor
set_option linter.unusedSimpArgs false
set_option linter.unusedVariables false
set_option maxRecDepth 100000
attribute [local irreducible] Go.X.xE
open Go Go.X Go.RowKit

/-! ## Package disk: what changes it -/
section
variable {α : Type}
theorem mget_mem {l : List (Int × α)} {k : Int} {v : α} (h : mget l k = some v) : (k, v) ∈ l := by
  rw [mget_pos] at h
  cases hp : mpos l k with
  | none => rw [hp] at h; cases h
  | some q =>
    obtain ⟨j, u⟩ := q
    rw [hp] at h
    simp at h
    subst h
    exact List.mem_of_getElem? (mpos_get hp)
theorem mset_mem {l : List (Int × α)} {k : Int} {v : α} : ∀ {q : Int × α}, q ∈ mset l k v → q = (k, v) ∨ q ∈ l := by
  induction l with
  | nil => intro q h; simp [mset] at h; exact .inl h
  | cons p l ih =>
    intro q h
    simp only [mset] at h
    split at h
    · rcases List.mem_cons.1 h with rfl | h
      · exact .inl rfl
      · exact .inr (List.mem_cons_of_mem _ h)
    · rcases List.mem_cons.1 h with rfl | h
      · exact .inr List.mem_cons_self
      · exact (ih h).imp id (List.mem_cons_of_mem _)
theorem mset_nd {β : Type} {f : Int × α → β} {l : List (Int × α)} {k : Int} {v : α} (h : (l.map f).Nodup) (hv : f (k, v) ∉ l.map f) : ((mset l k v).map f).Nodup := by
  induction l with
  | nil => simp [mset]
  | cons p l ih =>
    rw [List.map_cons] at h hv
    obtain ⟨h1, h2⟩ := List.nodup_cons.1 h
    rw [List.mem_cons, not_or] at hv
    simp only [mset]
    split
    · rw [List.map_cons]
      exact List.nodup_cons.2 ⟨hv.2, h2⟩
    · rw [List.map_cons]
      refine List.nodup_cons.2 ⟨fun hm => ?_, ih h2 hv.2⟩
      obtain ⟨q, hq, he⟩ := List.mem_map.1 hm
      rcases mset_mem hq with rfl | hq
      · exact hv.1 he
      · exact h1 (he ▸ List.mem_map.2 ⟨q, hq, rfl⟩)
end
/-- The sectors' rows, where the sectors s have what waits. -/
def mixS (S : List Rw) (W : List (Int × Rw)) (s : Nat → Bool) : List Rw := S.zipIdx.map fun q => if s q.2 then (mget W (q.2 : Int)).getD q.1 else q.1
theorem mixS_len (S : List Rw) (W : List (Int × Rw)) (s : Nat → Bool) : (mixS S W s).length = S.length := by simp [mixS]
theorem mixS_get (S : List Rw) (W : List (Int × Rw)) (s : Nat → Bool) (i : Nat) : (mixS S W s)[i]? = (S[i]?).map fun r => if s i then (mget W (i : Int)).getD r else r := by
  simp only [mixS, List.getElem?_map, List.getElem?_zipIdx, Nat.zero_add]
  cases S[i]? <;> rfl
theorem mixS_none (S : List Rw) (W : List (Int × Rw)) : mixS S W (fun _ => false) = S := by
  apply List.ext_getElem?
  intro i
  rw [mixS_get]
  cases S[i]? <;> rfl
theorem mixS_set {S : List Rw} {W : List (Int × Rw)} {s : Nat → Bool} {i : Nat} {r : Rw} (hm : mget W (i : Int) = some r) : ((mixS S W s).map Rw.v).set i r.v = (mixS S W fun j => s j || decide (j = i)).map Rw.v := by
  apply List.ext_getElem?
  intro j
  rw [List.getElem?_set, List.getElem?_map, List.getElem?_map, mixS_get, mixS_get, List.length_map, mixS_len]
  by_cases hij : i = j
  · subst hij
    rw [if_pos rfl]
    by_cases hl : i < S.length
    · rw [if_pos hl, List.getElem?_eq_getElem hl]
      simp [hm]
    · rw [if_neg hl, List.getElem?_eq_none (by omega)]
      rfl
  · rw [if_neg hij]
    have : decide (j = i) = false := by simp; omega
    rw [this, Bool.or_false]
theorem mixS_mem {S : List Rw} {W : List (Int × Rw)} {s : Nat → Bool} {r : Rw} (h : r ∈ mixS S W s) : r ∈ S ∨ ∃ q ∈ W, q.2 = r := by
  obtain ⟨i, hi, rfl⟩ := List.mem_iff_getElem.1 h
  have hi' : i < S.length := by rw [mixS_len] at hi; exact hi
  have := mixS_get S W s i
  rw [List.getElem?_eq_getElem hi, List.getElem?_eq_getElem hi'] at this
  simp only [Option.map_some, Option.some.injEq] at this
  rw [this]
  split
  · cases hm : mget W (i : Int) with
    | none => exact .inl (List.getElem_mem hi')
    | some r' => exact .inr ⟨_, mget_mem hm, rfl⟩
  · exact .inl (List.getElem_mem hi')
theorem mixS_nd {S : List Rw} {W : List (Int × Rw)} {s : Nat → Bool} (h1 : (S.map Rw.b).Nodup) (h2 : (W.map fun q => q.2.b).Nodup) (h3 : ∀ r ∈ S, ∀ q ∈ W, r.b ≠ q.2.b) : ((mixS S W s).map Rw.b).Nodup := by
  have key : ∀ (i j : Nat) (a b : Rw), i < j → (mixS S W s)[i]? = some a → (mixS S W s)[j]? = some b → a.b ≠ b.b := by
    intro i j a b hij ha hb
    have hj : j < S.length := by have := (List.getElem?_eq_some_iff.1 hb).1; rwa [mixS_len] at this
    have hi : i < S.length := by omega
    rw [mixS_get, List.getElem?_eq_getElem hi] at ha
    rw [mixS_get, List.getElem?_eq_getElem hj] at hb
    simp only [Option.map_some, Option.some.injEq] at ha hb
    have hSS : (S[i]).b ≠ (S[j]).b := by
      have := List.pairwise_iff_getElem.1 h1 i j (by simpa using hi) (by simpa using hj) hij
      rwa [List.getElem_map, List.getElem_map] at this
    have hWW : ∀ a b, mget W (i : Int) = some a → mget W (j : Int) = some b → a.b ≠ b.b := by
      intro a b ha hb he
      obtain ⟨x, hx, hxe⟩ := List.mem_iff_getElem.1 (mget_mem ha)
      obtain ⟨y, hy, hye⟩ := List.mem_iff_getElem.1 (mget_mem hb)
      have hxy : x = y := by
        rcases Nat.lt_trichotomy x y with hlt | he' | hlt
        · refine absurd ?_ (List.pairwise_iff_getElem.1 h2 x y (by simpa using hx) (by simpa using hy) hlt)
          rw [List.getElem_map, List.getElem_map, hxe, hye]; exact he
        · exact he'
        · refine absurd ?_ (List.pairwise_iff_getElem.1 h2 y x (by simpa using hy) (by simpa using hx) hlt)
          rw [List.getElem_map, List.getElem_map, hxe, hye]; exact he.symm
      subst hxy
      rw [hxe] at hye
      have : (i : Int) = j := congrArg (·.1) hye
      omega
    subst ha
    subst hb
    split
    · split
      · cases hmi : mget W (i : Int) with
        | none => cases hmj : mget W (j : Int) with
          | none => exact hSS
          | some r' => exact h3 _ (List.getElem_mem hi) _ (mget_mem hmj)
        | some r => cases hmj : mget W (j : Int) with
          | none => exact fun e => h3 _ (List.getElem_mem hj) _ (mget_mem hmi) e.symm
          | some r' => exact hWW _ _ hmi hmj
      · cases hmi : mget W (i : Int) with
        | none => exact hSS
        | some r => exact fun e => h3 _ (List.getElem_mem hj) _ (mget_mem hmi) e.symm
    · split
      · cases hmj : mget W (j : Int) with
        | none => exact hSS
        | some r' => exact h3 _ (List.getElem_mem hi) _ (mget_mem hmj)
      · exact hSS
  refine List.pairwise_iff_getElem.2 fun i j hi hj hij => ?_
  rw [List.getElem_map, List.getElem_map]
  exact key i j _ _ hij (List.getElem?_eq_getElem (by simpa using hi)) (List.getElem?_eq_getElem (by simpa using hj))
theorem ZB : zeroB Tryd.prog 4 (.bool false) := by unfold zeroB; kernel_rfl
section
variable {T : TypeId} {w : World} {p lb o cap wm rm : Nat} {S : List Rw} {W : List (Int × Rw)} {R : List (Int × Bool)} {C : List Value} {dead : Bool} {D : Dk} {s : Nat → Bool} {R0 : List (Int × Bool)}
/-- The store of a row into the list of sectors. -/
theorem Mid.put (h : Mid T w p lb o cap wm rm S W R C dead) {i : Nat} {v : Value} (hi : i < S.length) (hv : v.oneCell' = true) {K : World → Prop} (k : ∀ w', Mid T w' p lb o cap wm rm S W R (C.set i v) dead → Kept [lb] w w' → K w') :
    xP Tryd.prog (sIA 50 (.slice (some ⟨lb, o, none⟩) S.length cap) (.int .i64 i)) fun u => xE Tryd.prog (sStore 36 u v) w fun _ w' => K w' := by
  refine (xP_IAn SL_50 SZ_36 hi).2 ?_
  rw [Nat.mul_one]
  have hnd := frm_split.1 h.nd
  refine xE_storeOwn SZ_36 h.own (by rw [h.clen]; exact hi) hv fun w1 ho1 hk1 hz1 => ?_
  refine k w1 ⟨h.blk.kept hk1 (by simp; exact hnd.1.1), ho1, h.mw.kept hk1 (by simp; exact fun e => hnd.1.2.2.2.1 e.symm), h.mr.kept hk1 (by simp; exact fun e => hnd.1.2.2.2.2.1 e.symm), fun r hr => (h.rs r hr).kept hk1 (by simp; exact (hnd.2.1 lb (by simp)).1 r hr), fun q hq => ⟨(h.rw q hq).1.kept hk1 (by simp; exact (hnd.2.1 lb (by simp)).2 q hq), (h.rw q hq).2⟩, h.nd, h.pos, h.le⟩ hk1
/-- The map of what is rotted, changed. -/
theorem Mid.rotm (h : Mid T w p lb o cap wm rm S W R C dead) {R' : List (Int × Bool)} {w' : World} (hm : MapOf w' rm Value.bool R') (hk : Kept [rm] w w') : Mid T w' p lb o cap wm rm S W R' C dead := by
  have hnd := frm_split.1 h.nd
  exact ⟨h.blk.kept hk (by simp; exact hnd.1.2.2.1), h.own.kept hk (by simp; exact hnd.1.2.2.2.2.1), h.mw.kept hk (by simp; exact hnd.1.2.2.2.2.2), hm, fun r hr => (h.rs r hr).kept hk (by simp; exact (hnd.2.1 rm (by simp)).1 r hr), fun q hq => ⟨(h.rw q hq).1.kept hk (by simp; exact (hnd.2.1 rm (by simp)).2 q hq), (h.rw q hq).2⟩, h.nd, h.pos, h.le⟩
/-- The world of a map that is all new stands for what waited. -/
theorem Mid.drained (h : Mid T w p lb o cap wm rm S W R ((mixS S W s).map Rw.v) dead) (ha : Abs S W R0 D) (hd : dead = D.dead) (hR : ∀ j : Nat, (mget R (j : Int)).getD false = if s j then false else D.rot j) {K : World → Prop}
    (k : ∀ w' F', DkI T w' p (D.drain s) F' → Kept [p] w w' → (∀ g ∈ F', g ∈ frm p lb wm rm S W ∨ w.heap.size ≤ g) → K w') :
    xE Tryd.prog (sMakeMap 51 none) w fun v23 w21 => xE Tryd.prog (sStore 51 (.pointer (some ⟨p, 1, none⟩)) v23) w21 fun _ w24 => K w24 := by
  refine xE_makeMap (val := fun r : Rw => r.v) MP_51 (.inl rfl) fun w1 hm1 hk1 hz1 => ?_
  have h1 := h.kept0 hk1
  refine xE_store1 SZ_51 h1.blk (by simp) rfl fun w2 hb2 hk2 hz2 => ?_
  have hnd := frm_split.1 h.nd
  have hlt := h.lt
  have hpl := hlt p (by simp [frm])
  refine k w2 (frm p lb w.heap.size rm (mixS S W s) []) ⟨lb, o, cap, w.heap.size, rm, mixS S W s, [], R, ⟨?_, ?_, hm1.kept hk2 (by simp; omega), h1.mr.kept hk2 (by simp; exact fun e => hnd.1.2.2.1 e.symm), fun r hr => ?_, by simp, ?_, by rw [mixS_len]; exact h.pos, by rw [mixS_len]; exact h.le⟩, ⟨?_, fun _ => rfl, fun j => ?_⟩, rfl⟩ (hk1.mono (by simp) |>.then hk2 (by simp)) (fun g hg => ?_)
  · rw [mixS_len]
    show Blk w2 p T [_, _, _, .bool D.dead]
    rw [← hd]
    simpa using hb2
  · rw [mixS_len]
    exact h1.own.kept hk2 (by simp; exact fun e => hnd.1.1 e.symm)
  · rcases mixS_mem hr with hr | ⟨q, hq, rfl⟩
    · exact (h1.rs r hr).kept hk2 (by simp; exact (hnd.2.1 p (by simp)).1 r hr)
    · exact (h1.rw q hq).1.kept hk2 (by simp; exact (hnd.2.1 p (by simp)).2 q hq)
  · have hl1 := hlt lb (by simp [frm])
    have hl2 := hlt rm (by simp [frm])
    refine frm_split.2 ⟨⟨hnd.1.1, by omega, hnd.1.2.2.1, by omega, hnd.1.2.2.2.2.1, by omega⟩, fun b hb => ⟨fun r hr => ?_, by simp⟩, mixS_nd hnd.2.2.1 hnd.2.2.2.1 hnd.2.2.2.2, by simp, by simp⟩
    have hrl : r.b < w.heap.size := by
      rcases mixS_mem hr with hr | ⟨q, hq, rfl⟩
      · exact (h.rs r hr).lt
      · exact (h.rw q hq).1.lt
    simp at hb
    rcases hb with hb | hb | hb | hb
    · subst hb
      rcases mixS_mem hr with hr | ⟨q, hq, rfl⟩
      · exact (hnd.2.1 b (by simp)).1 r hr
      · exact (hnd.2.1 b (by simp)).2 q hq
    · subst hb
      rcases mixS_mem hr with hr | ⟨q, hq, rfl⟩
      · exact (hnd.2.1 b (by simp)).1 r hr
      · exact (hnd.2.1 b (by simp)).2 q hq
    · omega
    · subst hb
      rcases mixS_mem hr with hr | ⟨q, hq, rfl⟩
      · exact (hnd.2.1 b (by simp)).1 r hr
      · exact (hnd.2.1 b (by simp)).2 q hq
  · apply List.ext_getElem?
    intro i
    rw [List.getElem?_map, mixS_get, drain_get, ← ha.1, List.getElem?_map, ← ha.2.1 i]
    cases S[i]? with
    | none => rfl
    | some r =>
      simp only [Option.map_some, Option.some.injEq]
      split
      · cases mget W (i : Int) <;> rfl
      · rfl
  · exact hR j
  · unfold frm at hg
    simp only [List.mem_cons, List.mem_append, List.mem_map, List.not_mem_nil, List.map_nil, or_false] at hg
    rcases hg with rfl | rfl | rfl | rfl | ⟨r, hr, rfl⟩
    · exact .inl (by simp [frm])
    · exact .inl (by simp [frm])
    · exact .inr (Nat.le_refl _)
    · exact .inl (by simp [frm])
    · rcases mixS_mem hr with hr | ⟨q, hq, rfl⟩
      · exact .inl (by unfold frm; simp; exact .inr (.inr (.inr (.inr (.inl ⟨r, hr, rfl⟩)))))
      · exact .inl (by unfold frm; simp; exact .inr (.inr (.inr (.inr (.inr ⟨_, _, hq, rfl⟩)))))
end
theorem put_ok {w : World} {p lb o cap wm rm : Nat} {S : List Rw} {W : List (Int × Rw)} {R : List (Int × Bool)} {C : List Value} {dead : Bool} (h : Mid 53 w p lb o cap wm rm S W R C dead) {i : Nat} {r : Rw} (hm : mget W (i : Int) = some r) :
    Gives Tryd.prog 18 #[.pointer (some ⟨p, 0, none⟩), .int .i64 i] w fun _ w' => Mid 53 w' p lb o cap wm rm S W (mset R (i : Int) false) (C.set i r.v) dead ∧ Kept [lb, rm] w w' := by
  have hr := h.rw _ (mget_mem hm)
  have hi : i < S.length := by have := hr.2.2; simp at this; omega
  have hd := kept_drew [] w
  have h1 := h.kept0 hd
  obtain ⟨L0, L1, L2, L3⟩ := h1.ld
  refine C_disk_Disk_put ?_
  unfold S_disk_Disk_put
  simp only [xP_nil, xP_pick, xP_func, xP_not, xP_add, xP_sub, xP_mul, xP_lss, xP_leq, xP_gtr, xP_geq, xP_max2, xP_min2, xR_eql, xR_neq, Nat.zero_add, Nat.add_zero, Nat.reduceAdd, List.getD_cons_zero, List.getD_cons_succ, xIf_true, xIf_false, FA_33_0, FA_33_1, FA_33_3, FA_53_0, FA_53_1, FA_53_2, FA_53_3, FA_61_0, FA_61_1, FA_61_2, LEN_22, LEN_36, LEN_41, LEN_50, LEN_58, LEN_94, L0, L1]
  refine (xR_lookup MP_51 h1.mw Z_36).2 ?_
  rw [hm]
  simp only [Option.map_some, Option.getD_some]
  refine h1.put hi (h1.rw _ (mget_mem hm)).1.one fun w2 h2 hk2 => ?_
  obtain ⟨M0, M1, M2, M3⟩ := h2.ld
  simp only [xP_nil, xP_pick, xP_func, xP_not, xP_add, xP_sub, xP_mul, xP_lss, xP_leq, xP_gtr, xP_geq, xP_max2, xP_min2, xR_eql, xR_neq, Nat.zero_add, Nat.add_zero, Nat.reduceAdd, List.getD_cons_zero, List.getD_cons_succ, xIf_true, xIf_false, FA_33_0, FA_33_1, FA_33_3, FA_53_0, FA_53_1, FA_53_2, FA_53_3, FA_61_0, FA_61_1, FA_61_2, LEN_22, LEN_36, LEN_41, LEN_50, LEN_58, LEN_94, M2]
  refine xE_mapUpdate MP_29 h2.mr (v := false) rfl fun w3 hm3 hk3 hz3 => ?_
  exact ⟨h2.rotm hm3 hk3, ((hd.mono (by simp)).then hk2 (by simp)).then hk3 (by simp)⟩
theorem oneI {n : Int} {w : World} {K : Value → World → Prop} (k : ∀ u w', SlT w' encI u [n] → Kept [] w w' → K u w') : xE Tryd.prog (sBuildSlice 41 1 #[(0, .int .i64 n)]) w K :=
  xE_buildSlice EL_41 [.int .i64 n] rfl rfl (by intro v hv; simp at hv; subst hv; rfl) (by omega) (by omega) fun w' hb hk _ => k _ _ (slT_blk (l := [n]) (by simpa [Value.cells, encI] using hb)) hk
def intsOf (l : List Nat) : List Int := l.map fun (i : Nat) => (i : Int)
theorem waits_ok {p : Nat} {D : Dk} {F : List Nat} {w : World} (h : DkI 53 w p D F) : Gives Tryd.prog 11 #[.pointer (some ⟨p, 0, none⟩)] w fun u w' => SlT w' encI u (intsOf D.ws) ∧ (∀ b o n c, u = .slice (some ⟨b, o, none⟩) n c → w.heap.size ≤ b) ∧ Kept [] w w' := by
  obtain ⟨lb, o, cap, wm, rm, S, W, R, h1, h2, rfl⟩ := h
  have hlen : S.length = D.sec.length := by rw [← h2.1, List.length_map]
  have hle := h1.le
  obtain ⟨L0, L1, L2, L3⟩ := h1.ld
  refine C_disk_Disk_Waits ?_
  unfold S_disk_Disk_Waits
  simp only [xP_nil, xP_pick, xP_func, xP_not, xP_add, xP_sub, xP_mul, xP_lss, xP_leq, xP_gtr, xP_geq, xP_max2, xP_min2, xR_eql, xR_neq, Nat.zero_add, Nat.add_zero, Nat.reduceAdd, List.getD_cons_zero, List.getD_cons_succ, xIf_true, xIf_false, FA_33_0, FA_33_1, FA_33_3, FA_53_0, FA_53_1, FA_53_2, FA_53_3, FA_61_0, FA_61_1, FA_61_2, LEN_22, LEN_36, LEN_41, LEN_50, LEN_58, LEN_94, L0]
  refine xLoop_of (fun ls w' => ∃ (i : Nat) (v : Value) (G : List Nat), ls = [v, .int .i64 i] ∧ i ≤ S.length ∧ Own w' 3 1 v (intsOf ((List.range i).filter fun i => (D.wt i).isSome)).length ((intsOf ((List.range i).filter fun i => (D.wt i).isSome)).flatMap encI) G ∧ (∀ g ∈ G, w.heap.size ≤ g) ∧ Kept [] w w')
    (fun ls _ => match ls with | [_, .int _ i] => S.length - i.toNat | _ => 0) ⟨0, .slice none 0 0, [], rfl, by omega, by simp only [List.range_zero, List.filter_nil]; exact own_nil _ _ _, by simp, Kept.refl _ _⟩ ?_
  rintro _ _ w1 ⟨i, v, G, rfl, hi, ho, hG, hk1⟩
  simp only [xP_nil, xP_pick, xP_func, xP_not, xP_add, xP_sub, xP_mul, xP_lss, xP_leq, xP_gtr, xP_geq, xP_max2, xP_min2, xR_eql, xR_neq, Nat.zero_add, Nat.add_zero, Nat.reduceAdd, List.getD_cons_zero, List.getD_cons_succ, xIf_true, xIf_false, FA_33_0, FA_33_1, FA_33_3, FA_53_0, FA_53_1, FA_53_2, FA_53_3, FA_61_0, FA_61_1, FA_61_2, LEN_22, LEN_36, LEN_41, LEN_50, LEN_58, LEN_94, xIf_dec]
  refine ⟨fun hlt => ?_, fun hge => ?_⟩
  · have h3 := h1.kept0 hk1
    obtain ⟨M0, M1, M2, M3⟩ := h3.ld
    have hfl : ((List.range i).filter fun i => (D.wt i).isSome).length ≤ i := by have := List.length_filter_le (fun i => (D.wt i).isSome) (List.range i); rwa [List.length_range] at this
    refine xJoin_of (fun ls w' => ∃ (v : Value) (G : List Nat), ls = [v] ∧ Own w' 3 1 v (intsOf ((List.range (i + 1)).filter fun i => (D.wt i).isSome)).length ((intsOf ((List.range (i + 1)).filter fun i => (D.wt i).isSome)).flatMap encI) G ∧ (∀ g ∈ G, w.heap.size ≤ g) ∧ Kept [] w w') ?_ ?_
    · simp only [xP_nil, xP_pick, xP_func, xP_not, xP_add, xP_sub, xP_mul, xP_lss, xP_leq, xP_gtr, xP_geq, xP_max2, xP_min2, xR_eql, xR_neq, Nat.zero_add, Nat.add_zero, Nat.reduceAdd, List.getD_cons_zero, List.getD_cons_succ, xIf_true, xIf_false, FA_33_0, FA_33_1, FA_33_3, FA_53_0, FA_53_1, FA_53_2, FA_53_3, FA_61_0, FA_61_1, FA_61_2, LEN_22, LEN_36, LEN_41, LEN_50, LEN_58, LEN_94, M1]
      refine (xR_lookupOk MP_51 h3.mw Z_36).2 ?_
      simp only [xP_ex0, xP_ex1]
      have hw : (mget W (i : Int)).isSome = (D.wt i).isSome := by rw [← h2.2.1 i]; cases mget W (i : Int) <;> rfl
      rw [hw, xIf_bool, List.range_succ, List.filter_append]
      refine ⟨fun hy => ?_, fun hn => ?_⟩
      · refine oneI fun u w2 hu hk2 => ?_
        refine xE_appendSrc EL_41 (ho.kept hk2 (by simp)) (Src.ofSlT (l := [(i : Int)]) (e' := 3) (by kernel_rfl) hu encI_len (fun x u hu => by simp [encI] at hu; subst hu; rfl)) (by simp [intsOf]; omega) (by unfold maxLen; simp [intsOf]; omega) fun u2 w3 G3 ho3 hk3 hG3 _ => ?_
        have hz := (hk1.then hk2 (by simp)).size
        refine ⟨u2, G3, rfl, ?_, fun g hg => (hG3 g hg).elim (hG g) (fun h => by omega), (hk1.then hk2 (by simp)).then hk3 (fun g hg => .inr (hG g hg))⟩
        have e : intsOf ((List.range i).filter (fun i => (D.wt i).isSome) ++ [i].filter fun i => (D.wt i).isSome) = intsOf ((List.range i).filter fun i => (D.wt i).isSome) ++ [(i : Int)] := by
          simp [intsOf, hy]
        rw [e, List.flatMap_append, List.length_append]
        exact ho3
      · refine ⟨v, G, rfl, ?_, hG, hk1⟩
        have e : [i].filter (fun i => (D.wt i).isSome) = [] := by simp [hn]
        rw [e, List.append_nil]
        exact ho
    rintro _ _ w2 ⟨v2, G2, rfl, ho2, hG2, hk2⟩
    simp only [xP_nil, xP_pick, xP_func, xP_not, xP_add, xP_sub, xP_mul, xP_lss, xP_leq, xP_gtr, xP_geq, xP_max2, xP_min2, xR_eql, xR_neq, Nat.zero_add, Nat.add_zero, Nat.reduceAdd, List.getD_cons_zero, List.getD_cons_succ, xIf_true, xIf_false, FA_33_0, FA_33_1, FA_33_3, FA_53_0, FA_53_1, FA_53_2, FA_53_3, FA_61_0, FA_61_1, FA_61_2, LEN_22, LEN_36, LEN_41, LEN_50, LEN_58, LEN_94]
    rw [wrap64 (by omega) (by omega)]
    exact ⟨⟨i + 1, v2, G2, rfl, by omega, ho2, hG2, hk2⟩, by omega⟩
  · obtain rfl : i = S.length := by omega
    unfold Dk.ws
    rw [← hlen]
    exact ⟨ho.slT encI_len (by omega), fun b o n c e => hG b (ho.addr b o n c e), hk1⟩
theorem write_ok {p : Nat} {D : Dk} {F : List Nat} {i : Int} {bv : Value} {b : List UInt8} {w : World} (h : DkI 53 w p D F) (hb : SlT w encB bv b) :
    Gives Tryd.prog 7 #[.pointer (some ⟨p, 0, none⟩), .int .i64 i, bv] w fun u w' => ∃ F', u = optV (dEr opDW i (D.refK i (decide (b.length ≠ 128)))) ∧ DkI 53 w' p (if D.refK i (decide (b.length ≠ 128)) = 0 then D.write i.toNat b else D) F' ∧ Kept F w w' ∧ ∀ g ∈ F', g ∈ F ∨ w.heap.size ≤ g := by
  refine C_disk_Disk_Write ?_
  unfold S_disk_Disk_Write
  obtain ⟨ba, bc, rfl, hbc, hbr⟩ := hb
  have hb : SlT w encB (.slice ba b.length bc) b := ⟨ba, bc, rfl, hbc, hbr⟩
  simp only [xP_nil, xP_pick, xP_func, xP_not, xP_add, xP_sub, xP_mul, xP_lss, xP_leq, xP_gtr, xP_geq, xP_max2, xP_min2, xR_eql, xR_neq, Nat.zero_add, Nat.add_zero, Nat.reduceAdd, List.getD_cons_zero, List.getD_cons_succ, xIf_true, xIf_false, FA_33_0, FA_33_1, FA_33_3, FA_53_0, FA_53_1, FA_53_2, FA_53_3, FA_61_0, FA_61_1, FA_61_2, LEN_22, LEN_36, LEN_41, LEN_50, LEN_58, LEN_94]
  rw [show decide (((b.length : Nat) : Int) ≠ 128) = decide (b.length ≠ 128) from decide_eq_decide.2 (by omega)]
  refine refusedS h ?_
  refine optV_neq.2 ?_
  rw [dEr_some]
  by_cases hk : D.refK i (decide (b.length ≠ 128)) = 0
  · rw [hk, if_pos rfl]
    simp only [decide_true, Bool.not_true, xIf_false]
    have hkk := hk
    unfold Dk.refK at hkk
    split at hkk
    · cases hkk
    · split at hkk
      · cases hkk
      · rename_i hnd hno
        have hlen : b.length = 128 := by
          rcases Nat.decEq b.length 128 with hne | he
          · exact absurd (.inl (decide_eq_true hne)) hno
          · exact he
        obtain ⟨n, rfl⟩ := Int.eq_ofNat_of_zero_le (show 0 ≤ i by omega)
        rw [Int.toNat_natCast]
        have hF := h.lt
        obtain ⟨lb, o, cap, wm, rm, S, W, R, h1, h2, rfl⟩ := h
        have hsl : S.length = D.sec.length := by rw [← h2.1, List.length_map]
        have hd := kept_drew [] w
        have h1d := h1.kept0 hd
        obtain ⟨L0, L1, L2, L3⟩ := h1d.ld
        simp only [xP_nil, xP_pick, xP_func, xP_not, xP_add, xP_sub, xP_mul, xP_lss, xP_leq, xP_gtr, xP_geq, xP_max2, xP_min2, xR_eql, xR_neq, Nat.zero_add, Nat.add_zero, Nat.reduceAdd, List.getD_cons_zero, List.getD_cons_succ, xIf_true, xIf_false, FA_33_0, FA_33_1, FA_33_3, FA_53_0, FA_53_1, FA_53_2, FA_53_3, FA_61_0, FA_61_1, FA_61_2, LEN_22, LEN_36, LEN_41, LEN_50, LEN_58, LEN_94, L1]
        refine xE_call CF_19 (clone_ok (hb.kept0 hd) hlen) ?_
        rintro _ w2 ⟨r, rfl, hr, hrb, hrx, hk2⟩
        have h3 := h1d.kept0 hk2
        refine (still1 ONE_51 (h3.blk.cell (o := 1))).2 ?_
        refine xE_mapUpdate MP_51 h3.mw (v := r) rfl fun w3 hm3 hk3 hz3 => ?_
        have hnd := frm_split.1 h1.nd
        have hzd : w.drew.heap.size = w.heap.size := rfl
        have hwl := hF wm (by simp [frm])
        refine ⟨frm p lb wm rm S (mset W (n : Int) r), rfl, ⟨lb, o, cap, wm, rm, S, mset W (n : Int) r, R, ⟨h3.blk.kept hk3 (by simp; exact hnd.1.2.1), h3.own.kept hk3 (by simp; exact hnd.1.2.2.2.1), hm3, h3.mr.kept hk3 (by simp; exact fun e => hnd.1.2.2.2.2.2 e.symm), fun r' hr' => (h3.rs r' hr').kept hk3 (by simp; exact (hnd.2.1 wm (by simp)).1 r' hr'), fun q hq => ?_, ?_, h1.pos, h1.le⟩, ⟨h2.1, fun j => ?_, h2.2.2⟩, rfl⟩, ?_, fun g hg => ?_⟩
        · rcases mset_mem hq with rfl | hq
          · exact ⟨hr.kept hk3 (by simp; omega), by simp, by simp; omega⟩
          · exact ⟨(h3.rw q hq).1.kept hk3 (by simp; exact (hnd.2.1 wm (by simp)).2 q hq), (h3.rw q hq).2⟩
        · refine frm_split.2 ⟨hnd.1, fun b' hb' => ⟨(hnd.2.1 b' hb').1, fun q hq => ?_⟩, hnd.2.2.1, mset_nd hnd.2.2.2.1 ?_, fun r' hr' q hq => ?_⟩
          · rcases mset_mem hq with rfl | hq
            · have := hF b' (by simp at hb'; rcases hb' with rfl | rfl | rfl | rfl <;> simp [frm])
              show r.b ≠ b'
              omega
            · exact (hnd.2.1 b' hb').2 q hq
          · intro hm
            obtain ⟨q, hq, he⟩ := List.mem_map.1 hm
            have := (h1.rw q hq).1.lt
            simp at he
            omega
          · rcases mset_mem hq with rfl | hq
            · have := (h1.rs r' hr').lt
              show r'.b ≠ r.b
              omega
            · exact hnd.2.2.2.2 r' hr' q hq
        · rw [mget_set]
          unfold Dk.write
          simp only
          by_cases hj : j = n
          · subst hj
            rw [if_pos rfl, if_pos rfl]
            simp [hrx]
          · rw [if_neg (by omega), if_neg hj]
            exact h2.2.1 j
        · exact ((hd.then hk2 (by simp)).mono (by simp)).then hk3 (fun g hg => .inl (by simp at hg; subst hg; simp [frm]))
        · unfold frm at hg ⊢
          simp only [List.mem_cons, List.mem_append, List.mem_map] at hg ⊢
          rcases hg with hg | hg | hg | hg | hg | ⟨q, hq, rfl⟩
          · exact .inl (.inl hg)
          · exact .inl (.inr (.inl hg))
          · exact .inl (.inr (.inr (.inl hg)))
          · exact .inl (.inr (.inr (.inr (.inl hg))))
          · exact .inl (.inr (.inr (.inr (.inr (.inl hg)))))
          · rcases mset_mem hq with rfl | hq
            · exact .inr (by show w.heap.size ≤ r.b; omega)
            · exact .inl (.inr (.inr (.inr (.inr (.inr ⟨q, hq, rfl⟩)))))
  · rw [decide_eq_false hk, if_neg hk]
    simp only [Bool.not_false, xIf_true]
    exact ⟨F, rfl, h, Kept.refl _ _, fun g hg => .inl hg⟩
theorem read_ok {p : Nat} {D : Dk} {F : List Nat} {i : Int} {w : World} (h : DkI 53 w p D F) :
    Gives Tryd.prog 9 #[.pointer (some ⟨p, 0, none⟩), .int .i64 i] w fun u w' => ∃ v, u = .tuple #[v, optV (dEr opDR i (D.refK i false))] ∧ SlT w' encB v (if D.refK i false = 0 then D.read i.toNat else []) ∧ Kept [] w w' ∧ ∀ b o n c, v = .slice (some ⟨b, o, none⟩) n c → w.heap.size ≤ b := by
  refine C_disk_Disk_Read ?_
  unfold S_disk_Disk_Read
  refine refusedS h ?_
  refine optV_neq.2 ?_
  rw [dEr_some]
  by_cases hk : D.refK i false = 0
  · rw [hk, if_pos rfl]
    simp only [decide_true, Bool.not_true, xIf_false]
    have hkk := hk
    unfold Dk.refK at hkk
    split at hkk
    · cases hkk
    · split at hkk
      · cases hkk
      · rename_i hnd hno
        obtain ⟨n, rfl⟩ := Int.eq_ofNat_of_zero_le (show 0 ≤ i by omega)
        rw [Int.toNat_natCast]
        obtain ⟨lb, o, cap, wm, rm, S, W, R, h1, h2, rfl⟩ := h
        have hsl : S.length = D.sec.length := by rw [← h2.1, List.length_map]
        have hn : n < S.length := by omega
        obtain ⟨L0, L1, L2, L3⟩ := h1.ld
        simp only [xP_nil, xP_pick, xP_func, xP_not, xP_add, xP_sub, xP_mul, xP_lss, xP_leq, xP_gtr, xP_geq, xP_max2, xP_min2, xR_eql, xR_neq, Nat.zero_add, Nat.add_zero, Nat.reduceAdd, List.getD_cons_zero, List.getD_cons_succ, xIf_true, xIf_false, FA_33_0, FA_33_1, FA_33_3, FA_53_0, FA_53_1, FA_53_2, FA_53_3, FA_61_0, FA_61_1, FA_61_2, LEN_22, LEN_36, LEN_41, LEN_50, LEN_58, LEN_94, L1]
        refine (xR_lookupOk MP_51 h1.mw Z_36).2 ?_
        simp only [xP_ex0, xP_ex1]
        have hw := h2.2.1 n
        unfold Dk.read
        rw [← hw]
        cases hm : mget W (n : Int) with
        | some r =>
          simp only [Option.isSome_some, xIf_true, Option.map_some, Option.getD_some]
          have hr := (h1.rw _ (mget_mem hm)).1
          refine xE_call CF_19 (clone_ok hr.slT hr.len) ?_
          rintro _ w2 ⟨r', rfl, hr', hb', hx', hk2⟩
          refine ⟨r'.v, rfl, by rw [← hx']; exact hr'.slT, hk2, fun b o n c e => ?_⟩
          obtain ⟨o', c', e'⟩ := hr'.some
          rw [e'] at e
          cases e
          exact hb'
        | none =>
          simp only [Option.isSome_none, xIf_false, Option.map_none, Option.getD_none, L0]
          have hel : (S.map Rw.v)[n]? = some (S[n]).v := by rw [List.getElem?_map, List.getElem?_eq_getElem hn]; rfl
          refine (h1.elem hel).2 ?_
          have hr := h1.rs _ (List.getElem_mem hn)
          have hx : D.sec.getD n [] = (S[n]).x := by rw [← h2.1, List.getD_eq_getElem?_getD, List.getElem?_map, List.getElem?_eq_getElem hn]; rfl
          refine xE_call CF_19 (clone_ok hr.slT hr.len) ?_
          rintro _ w2 ⟨r', rfl, hr', hb', hx', hk2⟩
          refine ⟨r'.v, rfl, by rw [hx, ← hx']; exact hr'.slT, hk2, fun b o n c e => ?_⟩
          obtain ⟨o', c', e'⟩ := hr'.some
          rw [e'] at e
          cases e
          exact hb'
  · rw [decide_eq_false hk, if_neg hk]
    simp only [Bool.not_false, xIf_true]
    exact ⟨_, rfl, SlT.nil_ _ _, Kept.refl _ _, fun b o n c e => by cases e⟩
end Go.Proofs.YtfjoepdmjopelaaDoor
