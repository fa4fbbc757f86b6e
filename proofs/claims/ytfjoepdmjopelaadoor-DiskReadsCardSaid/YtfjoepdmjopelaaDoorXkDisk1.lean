import Derived.Test.YtfjoepdmjopelaaDoorXkDisk0
namespace Go.Proofs.YtfjoepdmjopelaaDoor
set_option linter.unusedSimpArgs false
set_option linter.unusedVariables false
set_option maxRecDepth 100000
attribute [local irreducible] Go.X.xE
open Go Go.X Go.RowKit

/-! ## Package disk: what only looks, and what makes anew -/
def opDN : ByteArray := ⟨#[100, 105, 115, 107, 46, 78, 101, 119]⟩
def opDW : ByteArray := ⟨#[100, 105, 115, 107, 46, 87, 114, 105, 116, 101]⟩
def opDR : ByteArray := ⟨#[100, 105, 115, 107, 46, 82, 101, 97, 100]⟩
def opDF : ByteArray := ⟨#[100, 105, 115, 107, 46, 70, 108, 117, 115, 104]⟩
def opDO : ByteArray := ⟨#[100, 105, 115, 107, 46, 82, 111, 116]⟩
theorem dwrapK {op : ByteArray} {i k : Int} {w : World} {K : Value → World → Prop} (c : K (erV (.flt op i (.no k))) w) : xP Tryd.prog (sIface 45 (.int .i64 k)) fun v => xE Tryd.prog (sCall 15 #[.string op, .int .i64 i, v]) w K := by
  refine (xP_iface CEN).2 ?_
  refine xE_call CF_15 wrap_ok ?_
  rintro _ _ ⟨rfl, rfl⟩
  exact c
theorem refused_ok {p : Nat} {D : Dk} {F : List Nat} {op : ByteArray} {i : Int} {b : Bool} {w : World} (h : DkI 53 w p D F) :
    Gives Tryd.prog 17 #[.pointer (some ⟨p, 0, none⟩), .string op, .int .i64 i, .bool b] w fun u w' => u = optV (dEr op i (D.refK i b)) ∧ w = w' := by
  obtain ⟨lb, o, cap, wm, rm, S, W, R, h1, h2, rfl⟩ := h
  have hlen : S.length = D.sec.length := by rw [← h2.1, List.length_map]
  obtain ⟨L0, L1, L2, L3⟩ := h1.ld
  refine C_disk_Disk_refused ?_
  unfold S_disk_Disk_refused
  simp only [xP_nil, xP_pick, xP_func, xP_not, xP_add, xP_sub, xP_mul, xP_lss, xP_leq, xP_gtr, xP_geq, xP_max2, xP_min2, xR_eql, xR_neq, Nat.zero_add, Nat.add_zero, Nat.reduceAdd, List.getD_cons_zero, List.getD_cons_succ, xIf_true, xIf_false, FA_33_0, FA_33_1, FA_33_3, FA_53_0, FA_53_1, FA_53_2, FA_53_3, FA_61_0, FA_61_1, FA_61_2, LEN_22, LEN_36, LEN_41, LEN_50, LEN_58, LEN_94, L3]
  unfold Dk.refK
  cases D.dead with
  | true =>
    simp only [xIf_true, if_true]
    exact dwrapK ⟨rfl, rfl⟩
  | false =>
    simp only [xIf_false, Bool.false_eq_true, if_false]
    refine xJoin_of (fun ls w' => ls = [.bool (decide (b = true ∨ i < 0 ∨ (D.sec.length : Int) ≤ i))] ∧ w = w') ?_ ?_
    · rw [xIf_bool]
      refine ⟨fun hb => ⟨by rw [decide_eq_true (.inl hb)], rfl⟩, fun hb => ?_⟩
      simp only [xP_nil, xP_pick, xP_func, xP_not, xP_add, xP_sub, xP_mul, xP_lss, xP_leq, xP_gtr, xP_geq, xP_max2, xP_min2, xR_eql, xR_neq, Nat.zero_add, Nat.add_zero, Nat.reduceAdd, List.getD_cons_zero, List.getD_cons_succ, xIf_true, xIf_false, FA_33_0, FA_33_1, FA_33_3, FA_53_0, FA_53_1, FA_53_2, FA_53_3, FA_61_0, FA_61_1, FA_61_2, LEN_22, LEN_36, LEN_41, LEN_50, LEN_58, LEN_94, L0, xIf_dec]
      refine ⟨fun hi => ⟨by rw [decide_eq_true (.inr (.inl hi))], trivial⟩, fun hi => ⟨?_, trivial⟩⟩
      rw [hlen, decide_eq_decide.2 (show ((D.sec.length : Int) ≤ i) ↔ (b = true ∨ i < 0 ∨ (D.sec.length : Int) ≤ i) by subst hb; simp; omega)]
    rintro _ _ _ ⟨rfl, rfl⟩
    simp only [List.getD_cons_zero, xIf_dec]
    refine ⟨fun hbad => ?_, fun hgood => ?_⟩
    · rw [if_pos hbad]
      exact dwrapK ⟨rfl, rfl⟩
    · rw [if_neg hgood]
      exact ⟨rfl, rfl⟩
theorem refusedS {p : Nat} {D : Dk} {F : List Nat} {op : ByteArray} {i : Int} {b : Bool} {w : World} {K : Value → World → Prop} (h : DkI 53 w p D F) (k : K (optV (dEr op i (D.refK i b))) w) :
    xE Tryd.prog (sCall 17 #[.pointer (some ⟨p, 0, none⟩), .string op, .int .i64 i, .bool b]) w K :=
  xE_call CF_17 (refused_ok h) (fun u w' ⟨e, e'⟩ => by subst e; subst e'; exact k)
/-- The disk's own block, whatever lies in it: a list of sectors of its own. -/
structure Raw (T : TypeId) (w : World) (p lb o cap n : Nat) (m1 m2 : Value) (C : List Value) (dead : Bool) : Prop where
  blk : Blk w p T [.slice (some ⟨lb, o, none⟩) n cap, m1, m2, .bool dead]
  own : Own w 36 1 (.slice (some ⟨lb, o, none⟩) n cap) n C [lb]
  ne : p ≠ lb
  pos : 0 < n
  le : n ≤ 128
theorem Raw.kept {T : TypeId} {w w' : World} {p lb o cap n : Nat} {m1 m2 : Value} {C : List Value} {dead : Bool} {M : List Nat} (h : Raw T w p lb o cap n m1 m2 C dead) (hk : Kept M w w') (h1 : p ∉ M) (h2 : lb ∉ M) : Raw T w' p lb o cap n m1 m2 C dead :=
  ⟨h.blk.kept hk h1, h.own.kept hk (by simpa using h2), h.ne, h.pos, h.le⟩
theorem Raw.ld {T : TypeId} {w : World} {p lb o cap n : Nat} {m1 m2 : Value} {C : List Value} {dead : Bool} (h : Raw T w p lb o cap n m1 m2 C dead) :
    (∀ K, xR Tryd.prog (sLoad 50 (.pointer (some ⟨p, 0, none⟩))) w K ↔ K (.slice (some ⟨lb, o, none⟩) n cap)) := fun _ => ld1 ONE_50 (h.blk.cell (o := 0))
theorem Mid.raw {T : TypeId} {w : World} {p lb o cap wm rm : Nat} {S : List Rw} {W : List (Int × Rw)} {R : List (Int × Bool)} {C : List Value} {dead : Bool} (h : Mid T w p lb o cap wm rm S W R C dead) : Raw T w p lb o cap S.length (.map (some wm)) (.map (some rm)) C dead :=
  ⟨h.blk, h.own, (frm_split.1 h.nd).1.1, h.pos, h.le⟩
def blankS (n : Nat) : List (List UInt8) := List.replicate n noughts
/-- What blank leaves. -/
def BlankPost (T : TypeId) (p lb : Nat) (n : Nat) (dead : Bool) (w w' : World) : Prop := ∃ F', DkI T w' p ⟨blankS n, fun _ => none, fun _ => false, dead⟩ F' ∧ Kept [p, lb] w w' ∧ ∀ g ∈ F', g = p ∨ g = lb ∨ w.heap.size ≤ g
section
variable {T : TypeId} {w : World} {p lb o cap n : Nat} {m1 m2 : Value} {C : List Value} {dead : Bool}
/-- One sector is made anew. -/
theorem blank_step {w1 : World} {S : List Rw} {i : Nat} {K : World → Prop} (h : Raw T w1 p lb o cap n m1 m2 (S.map Rw.v ++ C.drop i) dead) (hk : Kept [lb] w w1) (hp : p < w.heap.size) (hl : lb < w.heap.size) (hi : i < n) (hS : S.length = i) (hC : C.length = n) (hok : ∀ r ∈ S, r.Ok w1 ∧ w.heap.size ≤ r.b ∧ r.x = noughts) (hnd : (S.map Rw.b).Nodup)
    (k : ∀ w2 r, Raw T w2 p lb o cap n m1 m2 ((S ++ [r]).map Rw.v ++ C.drop (i + 1)) dead → Kept [lb] w w2 → (∀ r' ∈ S ++ [r], r'.Ok w2 ∧ w.heap.size ≤ r'.b ∧ r'.x = noughts) → ((S ++ [r]).map Rw.b).Nodup → K w2) :
    xR Tryd.prog (sLoad 50 (.pointer (some ⟨p, 0, none⟩))) w1.drew fun v14 => xE Tryd.prog (sMakeSlice 36 (.int .i64 128) (.int .i64 128)) w1.drew fun v16 w14 => xStill Tryd.prog (sLoad 50 (.pointer (some ⟨p, 0, none⟩))) v14 w14 <|
      xP Tryd.prog (sIA 50 v14 (.int .i64 i)) fun v17 => xE Tryd.prog (sStore 36 v17 v16) w14 fun _ w16 => K w16 := by
  have hd := kept_drew [] w1
  have hrd := h.kept hd (by simp) (by simp)
  rw [hrd.ld]
  refine makeRow fun r w2 hr hrb hrx hk2 hz2 => ?_
  have hk12 := hd.then hk2 (by simp)
  have h2 := h.kept hk12 (by simp) (by simp)
  refine (still1 ONE_50 (h2.blk.cell (o := 0))).2 ?_
  refine (xP_IAn SL_50 SZ_36 hi).2 ?_
  rw [Nat.mul_one]
  have hz := hk.size
  have hzd : w1.drew.heap.size = w1.heap.size := rfl
  refine xE_storeOwn SZ_36 h2.own (by have := h2.own.1; omega) hr.one fun w3 ho3 hk3 hz3 => ?_
  have hCe : (S.map Rw.v ++ C.drop i).set i r.v = (S ++ [r]).map Rw.v ++ C.drop (i + 1) := by
    rw [List.set_append_right _ _ (by simp; omega), List.length_map, hS, Nat.sub_self, List.map_append, List.append_assoc]
    congr 1
    rw [List.drop_eq_getElem_cons (by omega)]
    rfl
  rw [hCe] at ho3
  have hk02 : Kept [lb] w w2 := hk.then hk12 (by simp)
  refine k w3 r ⟨h2.blk.kept hk3 (by simp; exact h.ne), ho3, h.ne, h.pos, h.le⟩ (hk02.then hk3 (by simp)) (fun r' hr' => ?_) ?_
  · rcases List.mem_append.1 hr' with hr' | hr'
    · obtain ⟨a1, a2, a3⟩ := hok r' hr'
      exact ⟨(a1.kept hk12 (by simp)).kept hk3 (by simp; omega), a2, a3⟩
    · simp at hr'
      subst hr'
      exact ⟨hr.kept hk3 (by simp; omega), by omega, hrx⟩
  · rw [List.map_append]
    refine List.nodup_append.2 ⟨hnd, by simp, fun a ha b hb => ?_⟩
    simp at hb
    subst hb
    obtain ⟨r', hr', rfl⟩ := List.mem_map.1 ha
    have := (hok r' hr').1.lt
    omega
/-- Both maps are made anew. -/
theorem blank_end {w1 : World} {S : List Rw} {K : World → Prop} (h : Raw T w1 p lb o cap n m1 m2 (S.map Rw.v) dead) (hk : Kept [lb] w w1) (hp : p < w.heap.size) (hl : lb < w.heap.size) (hS : S.length = n) (hok : ∀ r ∈ S, r.Ok w1 ∧ w.heap.size ≤ r.b ∧ r.x = noughts) (hnd : (S.map Rw.b).Nodup)
    (k : ∀ w2, BlankPost T p lb n dead w w2 → K w2) :
    xE Tryd.prog (sMakeMap 51 none) w1 fun v21 w19 => xE Tryd.prog (sMakeMap 29 none) w19 fun v22 w21 => xE Tryd.prog (sStore 51 (.pointer (some ⟨p, 1, none⟩)) v21) w21 fun _ w24 => xE Tryd.prog (sStore 29 (.pointer (some ⟨p, 2, none⟩)) v22) w24 fun _ w27 => K w27 := by
  refine xE_makeMap (val := fun r : Rw => r.v) MP_51 (.inl rfl) fun w2 hm2 hk2 hz2 => ?_
  refine xE_makeMap (val := Value.bool) MP_29 (.inl rfl) fun w3 hm3 hk3 hz3 => ?_
  have hk13 := hk2.then hk3 (by simp)
  have h3 := h.kept hk13 (by simp) (by simp)
  have hz1 := hk.size
  refine xE_store1 SZ_51 h3.blk (by simp) rfl fun w4 hb4 hk4 hz4 => ?_
  refine xE_store1 SZ_29 hb4 (by simp) rfl fun w5 hb5 hk5 hz5 => ?_
  have hk35 : Kept [p] w3 w5 := hk4.then hk5 (by simp)
  have hk15 : Kept [p] w1 w5 := (hk13.mono (by simp)).then hk35 (by simp)
  have hok5 : ∀ r ∈ S, r.Ok w5 := fun r hr => by
    obtain ⟨a1, a2, a3⟩ := hok r hr
    exact a1.kept hk15 (by simp; omega)
  refine k w5 ⟨_, ⟨lb, o, cap, w1.heap.size, w2.heap.size, S, [], [], ⟨by simpa [hS] using hb5, ?_, (hm2.kept hk3 (by simp)).kept hk35 (by simp; omega), hm3.kept hk35 (by simp; omega), hok5, by simp, ?_, by rw [hS]; exact h.pos, by rw [hS]; exact h.le⟩, ⟨?_, fun _ => rfl, fun _ => rfl⟩, rfl⟩, ?_, ?_⟩
  · rw [hS]
    exact h3.own.kept hk35 (by have := h.ne; simp; omega)
  · have hne := h.ne
    have hlts : ∀ r ∈ S, r.b < w1.heap.size := fun r hr => (hok r hr).1.lt
    refine frm_split.2 ⟨⟨hne, by omega, by omega, by omega, by omega, by omega⟩, ?_, hnd, by simp, by simp⟩
    intro b hb
    refine ⟨fun r hr e => ?_, by simp⟩
    obtain ⟨a1, a2, a3⟩ := hok r hr
    have := hlts r hr
    simp at hb
    rcases hb with rfl | rfl | rfl | rfl <;> omega
  · show S.map Rw.x = blankS n
    rw [blankS, List.eq_replicate_iff]
    refine ⟨by simp [hS], fun x hx => ?_⟩
    obtain ⟨r, hr, rfl⟩ := List.mem_map.1 hx
    exact (hok r hr).2.2
  · exact (hk.mono (by simp)).then hk15 (by simp)
  · intro g hg
    unfold frm at hg
    simp at hg
    rcases hg with rfl | rfl | rfl | rfl | ⟨r, hr, rfl⟩
    · exact .inl rfl
    · exact .inr (.inl rfl)
    · exact .inr (.inr hz1)
    · exact .inr (.inr (by omega))
    · exact .inr (.inr (hok r hr).2.1)
end
theorem blank_ok {w : World} {p lb o cap n : Nat} {m1 m2 : Value} {C : List Value} {dead : Bool} (h : Raw 53 w p lb o cap n m1 m2 C dead) :
    Gives Tryd.prog 16 #[.pointer (some ⟨p, 0, none⟩)] w fun _ w' => BlankPost 53 p lb n dead w w' := by
  have hC : C.length = n := by have := h.own.1; omega
  have hp := h.blk.lt
  have hl := h.own.lt lb (by simp)
  have hle := h.le
  refine C_disk_Disk_blank ?_
  unfold S_disk_Disk_blank
  simp only [xP_nil, xP_pick, xP_func, xP_not, xP_add, xP_sub, xP_mul, xP_lss, xP_leq, xP_gtr, xP_geq, xP_max2, xP_min2, xR_eql, xR_neq, Nat.zero_add, Nat.add_zero, Nat.reduceAdd, List.getD_cons_zero, List.getD_cons_succ, xIf_true, xIf_false, FA_33_0, FA_33_1, FA_33_3, FA_53_0, FA_53_1, FA_53_2, FA_53_3, FA_61_0, FA_61_1, FA_61_2, LEN_22, LEN_36, LEN_41, LEN_50, LEN_58, LEN_94, h.ld]
  refine xLoop_of (fun ls w' => ∃ (i : Nat) (S : List Rw), ls = [.int .i64 i] ∧ i ≤ n ∧ S.length = i ∧ Raw 53 w' p lb o cap n m1 m2 (S.map Rw.v ++ C.drop i) dead ∧ Kept [lb] w w' ∧ (∀ r ∈ S, r.Ok w' ∧ w.heap.size ≤ r.b ∧ r.x = noughts) ∧ (S.map Rw.b).Nodup)
    (fun ls _ => match ls with | [.int _ i] => n - i.toNat | _ => 0) ⟨0, [], rfl, by omega, rfl, h, Kept.refl _ _, by simp, by simp⟩ ?_
  rintro _ _ w1 ⟨i, S, rfl, hi, hS, h1, hk1, hok, hnd⟩
  simp only [xP_nil, xP_pick, xP_func, xP_not, xP_add, xP_sub, xP_mul, xP_lss, xP_leq, xP_gtr, xP_geq, xP_max2, xP_min2, xR_eql, xR_neq, Nat.zero_add, Nat.add_zero, Nat.reduceAdd, List.getD_cons_zero, List.getD_cons_succ, xIf_true, xIf_false, FA_33_0, FA_33_1, FA_33_3, FA_53_0, FA_53_1, FA_53_2, FA_53_3, FA_61_0, FA_61_1, FA_61_2, LEN_22, LEN_36, LEN_41, LEN_50, LEN_58, LEN_94, xIf_dec]
  refine ⟨fun hlt => ?_, fun hge => ?_⟩
  · refine blank_step h1 hk1 hp hl (by omega) hS hC hok hnd fun w2 r h2 hk2 hok2 hnd2 => ?_
    rw [wrap64 (by omega) (by omega)]
    exact ⟨⟨i + 1, S ++ [r], rfl, by omega, by simp [hS], h2, hk2, hok2, hnd2⟩, by omega⟩
  · obtain rfl : i = n := by omega
    rw [List.drop_eq_nil_of_le (by omega), List.append_nil] at h1
    refine blank_end h1 hk1 hp hl hS hok hnd fun w2 hb => ?_
    exact hb
theorem dnew_ok {n : Int} {w : World} : Gives Tryd.prog 4 #[.int .i64 n] w fun u w' => Kept [] w w' ∧
    ((¬ (1 ≤ n ∧ n ≤ 128) ∧ u = .tuple #[.pointer none, optV (dEr opDN n 1)]) ∨ (1 ≤ n ∧ n ≤ 128 ∧ ∃ p F, u = .tuple #[.pointer (some ⟨p, 0, none⟩), .nilIface] ∧ DkI 53 w' p (Dk.new n.toNat) F ∧ ∀ g ∈ F, w.heap.size ≤ g)) := by
  refine C_disk_New ?_
  unfold S_disk_New
  refine xJoin_of (fun ls w' => ls = [.bool (decide (¬ (1 ≤ n ∧ n ≤ 128)))] ∧ w = w') ?_ ?_
  · simp only [xP_lss, xP_gtr, xIf_dec]
    exact ⟨fun a => ⟨by rw [decide_eq_true (show ¬ (1 ≤ n ∧ n ≤ 128) by omega)], trivial⟩, fun a => ⟨by rw [decide_eq_decide.2 (show (128 < n) ↔ ¬ (1 ≤ n ∧ n ≤ 128) by omega)], trivial⟩⟩
  rintro _ _ _ ⟨rfl, rfl⟩
  simp only [List.getD_cons_zero, xIf_dec]
  refine ⟨fun hbad => ?_, fun hgood => ?_⟩
  · refine dwrapK ⟨Kept.refl _ _, .inl ⟨hbad, rfl⟩⟩
  · obtain ⟨m, rfl⟩ := Int.eq_ofNat_of_zero_le (show 0 ≤ n by omega)
    refine xE_make EL_50 (l := m) (by omega) (by unfold maxLen; omega) fun w1 hb1 hk1 hz1 => ?_
    refine (xP_build (cells := #[.slice (some ⟨w.heap.size, 0, none⟩) m m, .map none, .map none, .bool false]) (by kernel_rfl)).2 ?_
    refine xE_box fun w2 hb2 hk2 hz2 => ?_
    have hraw : Raw 53 w2 w1.heap.size w.heap.size 0 m m (.map none) (.map none) _ false := ⟨hb2, own_of_blk (hb1.kept hk2 (by simp)) (by simp) (by unfold maxLen; omega), by omega, by omega, by omega⟩
    refine xE_call CF_16 (blank_ok hraw) ?_
    rintro _ w3 ⟨F', hD, hk3, hF⟩
    refine ⟨(hk1.then hk2 (by simp)).then hk3 (by simp; omega), .inr ⟨by omega, by omega, _, F', rfl, hD, fun g hg => ?_⟩⟩
    rcases hF g hg with rfl | rfl | h <;> omega
theorem die_ok {p : Nat} {D : Dk} {F : List Nat} {w : World} (h : DkI 53 w p D F) : Gives Tryd.prog 25 #[.pointer (some ⟨p, 0, none⟩)] w fun _ w' => ∃ F', DkI 53 w' p (D.blank true) F' ∧ Kept F w w' ∧ ∀ g ∈ F', g ∈ F ∨ w.heap.size ≤ g := by
  obtain ⟨lb, o, cap, wm, rm, S, W, R, h1, h2, rfl⟩ := h
  have hlen : S.length = D.sec.length := by rw [← h2.1, List.length_map]
  refine C_disk_Disk_Die ?_
  unfold S_disk_Disk_Die
  refine xE_call CF_16 (blank_ok h1.raw) ?_
  rintro _ w1 ⟨F', ⟨lb', o', cap', wm', rm', S', W', R', g1, g2, rfl⟩, hk1, hF⟩
  simp only [xP_nil, xP_pick, xP_func, xP_not, xP_add, xP_sub, xP_mul, xP_lss, xP_leq, xP_gtr, xP_geq, xP_max2, xP_min2, xR_eql, xR_neq, Nat.zero_add, Nat.add_zero, Nat.reduceAdd, List.getD_cons_zero, List.getD_cons_succ, xIf_true, xIf_false, FA_33_0, FA_33_1, FA_33_3, FA_53_0, FA_53_1, FA_53_2, FA_53_3, FA_61_0, FA_61_1, FA_61_2, LEN_22, LEN_36, LEN_41, LEN_50, LEN_58, LEN_94]
  refine xE_store1 SZ_4 g1.blk (by simp) rfl fun w2 hb2 hk2 hz2 => ?_
  have hnd := (frm_split.1 g1.nd)
  refine ⟨frm p lb' wm' rm' S' W', ⟨lb', o', cap', wm', rm', S', W', R', ⟨by simpa [Dk.blank] using hb2, g1.own.kept hk2 (by simp; exact fun e => hnd.1.1 e.symm), g1.mw.kept hk2 (by simp; exact fun e => hnd.1.2.1 e.symm), g1.mr.kept hk2 (by simp; exact fun e => hnd.1.2.2.1 e.symm), fun r hr => (g1.rs r hr).kept hk2 (by simp; exact (hnd.2.1 p (by simp)).1 r hr), fun q hq => ⟨(g1.rw q hq).1.kept hk2 (by simp; exact (hnd.2.1 p (by simp)).2 q hq), (g1.rw q hq).2⟩, g1.nd, g1.pos, g1.le⟩, ?_, rfl⟩, ?_, ?_⟩
  · unfold Dk.blank
    rw [← hlen]
    exact g2
  · exact (hk1.mono (fun g hg => .inl (by simp at hg; rcases hg with rfl | rfl <;> simp [frm]))).then hk2 (fun g hg => .inl (by simp at hg; subst hg; simp [frm]))
  · intro g hg
    rcases hF g hg with rfl | rfl | h
    · exact .inl (by simp [frm])
    · exact .inl (by simp [frm])
    · exact .inr h
end Go.Proofs.YtfjoepdmjopelaaDoor
