import Derived.Test.YtclojjiiiejfpaaDoorXgGramL3
import Derived.Test.YtclojjiiiejfpaaDoorXBatchP
namespace Go.Proofs.YtclojjiiiejfpaaDoor
set_option linter.unusedSimpArgs false
set_option linter.unusedVariables false
set_option maxRecDepth 100000
attribute [local irreducible] Go.X.xE
open Go Go.X Go.RowKit

/-! ## Package batch -/
theorem btsmall : small btFields := btSmall
theorem ldBt {w : World} {k : Nat} {b : Bt} {vv : Value} (h : Blk w k 63 (encBt b vv)) :
    (∀ K, xR Tryd.prog (sLoad 3 (.pointer (some ⟨k, 0, none⟩))) w K ↔ K (.int .i64 b.t)) ∧ (∀ K, xR Tryd.prog (sLoad 3 (.pointer (some ⟨k, 1, none⟩))) w K ↔ K (.int .i64 b.p)) ∧
    (∀ K, xR Tryd.prog (sLoad 3 (.pointer (some ⟨k, 2, none⟩))) w K ↔ K (.int .i64 b.s)) ∧ (∀ K, xR Tryd.prog (sLoad 30 (.pointer (some ⟨k, 3, none⟩))) w K ↔ K vv) ∧ (∀ K, xR Tryd.prog (sLoad 63 (.pointer (some ⟨k, 0, none⟩))) w K ↔ K (vBt b vv)) :=
  ⟨fun _ => ld1 ONE_3 (h.cell (o := 0)), fun _ => ld1 ONE_3 (h.cell (o := 1)), fun _ => ld1 ONE_3 (h.cell (o := 2)), fun _ => ld1 ONE_30 (h.cell (o := 3)), fun _ => ldN (l := encBt b vv) AGG_63 h.at⟩
theorem stBt {w : World} {k : Nat} {b : Bt} {vv : Value} {B : Prop} (h : Blk w k 63 (encBt b vv)) : xStill Tryd.prog (sLoad 63 (.pointer (some ⟨k, 0, none⟩))) (vBt b vv) w B ↔ B := stillN (l := encBt b vv) AGG_63 h.at
theorem newBt {b : Bt} {vv : Value} {w : World} {K : Value → World → Prop} (h1 : vv.oneCell' = true) (k : ∀ w', Blk w' w.heap.size 63 (encBt b vv) → Kept [] w w' → K (.pointer (some ⟨w.heap.size, 0, none⟩)) w') :
    xE Tryd.prog (sAlloc 63) w fun v w1 => xE Tryd.prog (sStore 63 v (vBt b vv)) w1 fun _ w2 => K v w2 := by
  refine xE_alloc Z_63 fun w1 hb1 hk1 hz1 => ?_
  refine xE_storeN (l1 := []) (l2 := encBt ⟨0, 0, 0, []⟩ (.slice none 0 0)) (l3 := []) SZ_63 hb1 rfl rfl rfl (encBt_one h1) fun w2 hb2 hk2 hz2 => ?_
  exact k w2 (by simpa [vBt, Value.cells] using hb2) (hk1.trans hk2 (by simp) (by simp))
theorem PutPost.after {w0 w w' : World} {fs : List GFd} {vs : List GVl} {r : Value} (h : PutPost w fs vs r w') (hk : Kept [] w0 w) : PutPost w0 fs vs r w' := by
  unfold PutPost at *
  cases hg : gramPut fs vs with
  | error e => rw [hg] at h; exact ⟨h.1, hk.then h.2 (by simp)⟩
  | ok b => rw [hg] at h; obtain ⟨u, e, hf⟩ := h; exact ⟨u, e, hf.after hk⟩
theorem buildLV' {vv : Value} {α : Type} {w : World} {enc : α → List Value} {l : List α} (h : SlT w enc vv l) : Tryd.prog.built 32 #[(2, vv)].toList = some (encV ⟨0, strEmpty, vv⟩).toArray := by
  obtain ⟨a, c, rfl, _⟩ := h; exact buildLV
theorem bfields_ok {w : World} : Gives Tryd.prog 57 #[] w fun u w' => SlT w' encF u btFields ∧ Kept [] w w' := by
  refine C_batch_fields ?_
  unfold S_batch_fields
  refine (xP_build (cells := (encF ⟨1, 8, 0, 1125899906842624, 0⟩).toArray) (by kernel_rfl)).2 ?_
  refine (xP_build (cells := (encF ⟨1, 4, 0, 1048576, 0⟩).toArray) (by kernel_rfl)).2 ?_
  refine (xP_build (cells := (encF ⟨1, 8, 0, 1099511627776, 0⟩).toArray) (by kernel_rfl)).2 ?_
  refine (xP_build (cells := (encF ⟨3, 0, 1, 8, 60⟩).toArray) (by kernel_rfl)).2 ?_
  refine newFields (fs := btFields) rfl (by omega) (by omega) rfl fun u w' h hk => ?_
  exact ⟨h, hk⟩
def btRaws (b : Bt) (vv : Value) : List RawV := [⟨b.t, strEmpty, .slice none 0 0⟩, ⟨b.p, strEmpty, .slice none 0 0⟩, ⟨b.s, strEmpty, .slice none 0 0⟩, ⟨0, strEmpty, vv⟩]
theorem btRow {b : Bt} {vv : Value} {w : World} (h : SlT w encS vv b.v) : IsRow w (btRaws b vv) b.vals := by
  refine ⟨rfl, fun i x y hx hy => ?_⟩
  rcases i with _ | _ | _ | _ | i
  · simp [btRaws, Bt.vals] at hx hy; subst hx; subst hy; exact ⟨rfl, rfl, SlT.nil_ _ _⟩
  · simp [btRaws, Bt.vals] at hx hy; subst hx; subst hy; exact ⟨rfl, rfl, SlT.nil_ _ _⟩
  · simp [btRaws, Bt.vals] at hx hy; subst hx; subst hy; exact ⟨rfl, rfl, SlT.nil_ _ _⟩
  · simp [btRaws, Bt.vals] at hx hy; subst hx; subst hy; exact ⟨rfl, rfl, h⟩
  · simp [btRaws] at hx
theorem btVals_small {b : Bt} (h : b.v.length ≤ 9223372036854775806) : ∀ y ∈ b.vals, y.l.length ≤ 9223372036854775806 := by
  intro y hy
  simp [Bt.vals] at hy
  rcases hy with rfl | rfl | rfl | rfl <;> simp <;> omega
theorem newBtVals {b : Bt} {vv : Value} {w : World} {K : Value → World → Prop} (k : ∀ u w', SlT w' encV u (btRaws b vv) → Kept [] w w' → K u w') :
    xE Tryd.prog (sBuildSlice 33 4 #[(0, vV ⟨b.t, strEmpty, .slice none 0 0⟩), (1, vV ⟨b.p, strEmpty, .slice none 0 0⟩), (2, vV ⟨b.s, strEmpty, .slice none 0 0⟩), (3, vV ⟨0, strEmpty, vv⟩)]) w K :=
  newVals (raws := btRaws b vv) rfl (by omega) (by omega) rfl k
theorem bput_ok {b : Bt} {vv : Value} {w : World} (h : SlT w encS vv b.v) (hl : b.v.length ≤ 9223372036854775806) : Gives Tryd.prog 56 #[vBt b vv] w fun u w' => PutPost w btFields b.vals u w' := by
  refine C_batch_put ?_
  unfold S_batch_put
  refine xE_box fun w1 hb1 hk1 hz1 => ?_
  have hb1' : Blk w1 w.heap.size 63 (encBt b vv) := hb1
  generalize eB : w.heap.size = B at *
  have hd := kept_drew [] w1
  obtain ⟨L0, L1, L2, L3, L4⟩ := ldBt (blk_drew hb1')
  simp only [xP_nil, xP_pick, xP_func, xP_not, xP_add, xP_sub, xP_mul, xP_lss, xP_leq, xP_gtr, xP_geq, xP_max2, xP_min2, xR_eql, xR_neq, Nat.zero_add, Nat.add_zero, Nat.reduceAdd, List.getD_cons_zero, List.getD_cons_succ, xIf_true, xIf_false, FA_23_0, FA_23_1, FA_23_2, FA_23_3, FA_23_4, FA_32_0, FA_32_1, FA_32_2, FA_63_0, FA_63_1, FA_63_2, FA_63_3, FA_80_0, FA_80_1, FA_80_2, FA_85_0, FA_85_1, FA_85_2, LEN_24, LEN_25, LEN_30, LEN_33, LEN_58, LEN_82, LEN_134, L0, L1, L2, L3]
  refine (xP_build buildN).2 ?_
  refine (xP_build buildN).2 ?_
  refine (xP_build buildN).2 ?_
  refine (xP_build (buildLV' h)).2 ?_
  have fin : ∀ (fv uv : Value) (w' : World), Kept [] w1 w' → SlT w' encF fv btFields → SlT w' encV uv (btRaws b vv) →
      xE Tryd.prog (sCall 16 #[fv, uv]) w' fun v39 w45 => xP Tryd.prog (sExtract v39 0) fun v40 => xP Tryd.prog (sExtract v39 1) fun v41 => Ret (fun u w' => PutPost w btFields b.vals u w') (.returned (.tuple #[v40, v41])) w45 := by
    intro fv uv w' hk' hf hv
    have hk0 := hk1.then hk' (by simp)
    have hrow := btRow (b := b) (h.kept0 hk0)
    refine xE_call CF_16 (put_ok (vs := b.vals) hf btsmall (by simp [btFields]) hv hrow.1 hrow.2 (by simp [Bt.vals]) (btVals_small hl)) ?_
    intro r w'' hp
    have hp' := hp.after hk0
    unfold PutPost at hp
    have er : ∃ x y, r = .tuple #[x, y] := by
      cases hg : gramPut btFields b.vals with
      | error e => rw [hg] at hp; exact ⟨_, _, hp.1⟩
      | ok l => rw [hg] at hp; obtain ⟨u, e, _⟩ := hp; exact ⟨_, _, e⟩
    obtain ⟨x, y, rfl⟩ := er
    simp only [xP_ex0, xP_ex1]
    exact hp'
  refine ⟨?_, ?_⟩
  · refine xE_call CF_57 bfields_ok ?_
    rintro fv w2 ⟨hf, hk2⟩
    have hb2 := (blk_drew hb1').kept hk2 (by simp)
    refine (still1 ONE_30 (v := vv) (hb2.cell (o := 3))).2 ?_
    refine (still1 ONE_3 (hb2.cell (o := 2))).2 ?_
    refine (still1 ONE_3 (hb2.cell (o := 1))).2 ?_
    refine (still1 ONE_3 (hb2.cell (o := 0))).2 ?_
    refine newBtVals (b := b) (vv := vv) fun uv w3 hv hk3 => ?_
    exact fin fv uv w3 ((hd.then hk2 (by simp)).then hk3 (by simp)) (hf.kept0 hk3) hv
  · refine newBtVals (b := b) (vv := vv) fun uv w2 hv hk2 => ?_
    refine xE_call CF_57 bfields_ok ?_
    rintro fv w3 ⟨hf, hk3⟩
    exact fin fv uv w3 ((hd.then hk2 (by simp)).then hk3 (by simp)) hf (hv.kept0 hk3)
theorem btFit_put (b : Bt) : (b.fit = true ∧ gramPut btFields b.vals = .ok (btB b)) ∨ (b.fit = false ∧ ∃ e, gramPut btFields b.vals = .error e) := by
  cases hg : gramPut btFields b.vals with
  | error e =>
    right
    refine ⟨?_, e, rfl⟩
    cases h : b.fit with
    | false => rfl
    | true => rw [bt_put h] at hg; cases hg
  | ok l => have := bt_put_fit hg; exact .inl ⟨this.1, by rw [this.2]⟩
theorem bright_ok {b : Bt} {vv : Value} {w : World} (h : SlT w encS vv b.v) (hl : b.v.length ≤ 9223372036854775806) : Gives Tryd.prog 35 #[vBt b vv] w fun u w' => u = .bool b.right ∧ Kept [] w w' := by
  refine C_batch_Right ?_
  unfold S_batch_Right
  refine xE_box fun w1 hb1 hk1 hz1 => ?_
  have hb1' : Blk w1 w.heap.size 63 (encBt b vv) := hb1
  obtain ⟨L0, L1, L2, L3, L4⟩ := ldBt hb1'
  simp only [L4]
  refine xE_call CF_56 (bput_ok (h.kept0 hk1) hl) ?_
  intro r w2 hp
  unfold PutPost at hp
  unfold Bt.right
  rcases btFit_put b with ⟨hfit, hg⟩ | ⟨hfit, e, hg⟩
  · rw [hg] at hp
    obtain ⟨u, rfl, hfr⟩ := hp
    simp only [xP_ex0, xP_ex1]
    refine (xR_eqlN IFE).2 ?_
    obtain ⟨M0, M1, M2, M3, M4⟩ := ldBt (hb1'.kept hfr.keptI (by simp))
    simp only [xP_nil, xP_pick, xP_func, xP_not, xP_add, xP_sub, xP_mul, xP_lss, xP_leq, xP_gtr, xP_geq, xP_max2, xP_min2, xR_eql, xR_neq, Nat.zero_add, Nat.add_zero, Nat.reduceAdd, List.getD_cons_zero, List.getD_cons_succ, xIf_true, xIf_false, FA_23_0, FA_23_1, FA_23_2, FA_23_3, FA_23_4, FA_32_0, FA_32_1, FA_32_2, FA_63_0, FA_63_1, FA_63_2, FA_63_3, FA_80_0, FA_80_1, FA_80_2, FA_85_0, FA_85_1, FA_85_2, LEN_24, LEN_25, LEN_30, LEN_33, LEN_58, LEN_82, LEN_134, M1, M2, xIf_true, xIf_dec]
    have hk02 := hk1.then hfr.keptI (by simp)
    refine ⟨fun hpos => ⟨by rw [hfit, decide_eq_true (show 0 < b.p from hpos)]; rfl, hk02⟩, fun hneg => ⟨by rw [hfit, decide_eq_false hneg]; rfl, hk02⟩⟩
  · rw [hg] at hp
    obtain ⟨rfl, hk2⟩ := hp
    simp only [xP_ex0, xP_ex1]
    refine (xR_eqlI IFE).2 ?_
    simp only [xP_nil, xP_pick, xP_func, xP_not, xP_add, xP_sub, xP_mul, xP_lss, xP_leq, xP_gtr, xP_geq, xP_max2, xP_min2, xR_eql, xR_neq, Nat.zero_add, Nat.add_zero, Nat.reduceAdd, List.getD_cons_zero, List.getD_cons_succ, xIf_true, xIf_false, FA_23_0, FA_23_1, FA_23_2, FA_23_3, FA_23_4, FA_32_0, FA_32_1, FA_32_2, FA_63_0, FA_63_1, FA_63_2, FA_63_3, FA_80_0, FA_80_1, FA_80_2, FA_85_0, FA_85_1, FA_85_2, LEN_24, LEN_25, LEN_30, LEN_33, LEN_58, LEN_82, LEN_134]
    exact ⟨by rw [hfit]; rfl, hk1.then hk2 (by simp)⟩
theorem bPut_ok {b : Bt} {vv : Value} {w : World} (h : SlT w encS vv b.v) (hl : b.v.length ≤ 9223372036854775806) : Gives Tryd.prog 31 #[vBt b vv] w fun u w' => Fresh w w' u b.bytes := by
  refine C_batch_Put ?_
  unfold S_batch_Put
  refine xE_box fun w1 hb1 hk1 hz1 => ?_
  have hb1' : Blk w1 w.heap.size 63 (encBt b vv) := hb1
  obtain ⟨L0, L1, L2, L3, L4⟩ := ldBt hb1'
  simp only [L4]
  refine xE_call CF_35 (bright_ok (h.kept0 hk1) hl) ?_
  rintro _ w2 ⟨rfl, hk2⟩
  have hk02 := hk1.then hk2 (by simp)
  obtain ⟨M0, M1, M2, M3, M4⟩ := ldBt (hb1'.kept hk2 (by simp))
  simp only [xP_nil, xP_pick, xP_func, xP_not, xP_add, xP_sub, xP_mul, xP_lss, xP_leq, xP_gtr, xP_geq, xP_max2, xP_min2, xR_eql, xR_neq, Nat.zero_add, Nat.add_zero, Nat.reduceAdd, List.getD_cons_zero, List.getD_cons_succ, xIf_true, xIf_false, FA_23_0, FA_23_1, FA_23_2, FA_23_3, FA_23_4, FA_32_0, FA_32_1, FA_32_2, FA_63_0, FA_63_1, FA_63_2, FA_63_3, FA_80_0, FA_80_1, FA_80_2, FA_85_0, FA_85_1, FA_85_2, LEN_24, LEN_25, LEN_30, LEN_33, LEN_58, LEN_82, LEN_134, xIf_bool, M4]
  refine ⟨fun hno => ?_, fun hyes => ?_⟩
  · rw [Bt.bytes_not (by simpa using hno)]
    exact ⟨[], own_nil _ _ _, by simp, hk02⟩
  · have hg := right_put4 (b := b) (by simpa using hyes)
    refine xE_call CF_56 (bput_ok (h.kept0 hk02) hl) ?_
    intro r w3 hp
    unfold PutPost at hp
    rw [hg] at hp
    obtain ⟨u, rfl, hfr⟩ := hp
    simp only [xP_ex0, xP_ex1]
    exact hfr.after hk02
theorem bPutS {b : Bt} {vv : Value} {w : World} {K : Value → World → Prop} (h : SlT w encS vv b.v) (hl : b.v.length ≤ 9223372036854775806) (k : ∀ u w', SlT w' encB u b.bytes → Kept [] w w' → K u w') : xE Tryd.prog (sCall 31 #[vBt b vv]) w K :=
  xE_call CF_31 (bPut_ok h hl) (fun u w' hf => k u w' hf.slT hf.keptI)
theorem brightS {b : Bt} {vv : Value} {w : World} {K : Value → World → Prop} (h : SlT w encS vv b.v) (hl : b.v.length ≤ 9223372036854775806) (k : ∀ w', Kept [] w w' → K (.bool b.right) w') : xE Tryd.prog (sCall 35 #[vBt b vv]) w K :=
  xE_call CF_35 (bright_ok h hl) (fun u w' ⟨h1, h2⟩ => by subst h1; exact k w' h2)
theorem bsize_ok {b : Bt} {vv : Value} {w : World} (h : SlT w encS vv b.v) (hl : b.v.length ≤ 9223372036854775806) : Gives Tryd.prog 33 #[vBt b vv] w fun u w' => u = .int .i64 b.bytes.length ∧ Kept [] w w' := by
  refine C_batch_Size ?_
  unfold S_batch_Size
  refine xE_box fun w1 hb1 hk1 hz1 => ?_
  have hb1' : Blk w1 w.heap.size 63 (encBt b vv) := hb1
  obtain ⟨L0, L1, L2, L3, L4⟩ := ldBt hb1'
  simp only [L4]
  refine bPutS (h.kept0 hk1) hl fun u w2 hu hk2 => ?_
  obtain ⟨a, c, rfl, _, _⟩ := hu
  simp only [xP_nil, xP_pick, xP_func, xP_not, xP_add, xP_sub, xP_mul, xP_lss, xP_leq, xP_gtr, xP_geq, xP_max2, xP_min2, xR_eql, xR_neq, Nat.zero_add, Nat.add_zero, Nat.reduceAdd, List.getD_cons_zero, List.getD_cons_succ, xIf_true, xIf_false, FA_23_0, FA_23_1, FA_23_2, FA_23_3, FA_23_4, FA_32_0, FA_32_1, FA_32_2, FA_63_0, FA_63_1, FA_63_2, FA_63_3, FA_80_0, FA_80_1, FA_80_2, FA_85_0, FA_85_1, FA_85_2, LEN_24, LEN_25, LEN_30, LEN_33, LEN_58, LEN_82, LEN_134]
  exact ⟨rfl, hk1.then hk2 (by simp)⟩
theorem bsizeS {b : Bt} {vv : Value} {w : World} {K : Value → World → Prop} (h : SlT w encS vv b.v) (hl : b.v.length ≤ 9223372036854775806) (k : ∀ w', Kept [] w w' → K (.int .i64 b.bytes.length) w') : xE Tryd.prog (sCall 33 #[vBt b vv]) w K :=
  xE_call CF_33 (bsize_ok h hl) (fun u w' ⟨h1, h2⟩ => by subst h1; exact k w' h2)
end Go.Proofs.YtclojjiiiejfpaaDoor
