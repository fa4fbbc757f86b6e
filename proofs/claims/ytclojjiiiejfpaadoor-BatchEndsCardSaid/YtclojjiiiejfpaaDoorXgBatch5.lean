import Derived.Test.YtclojjiiiejfpaaDoorXgBatch4
namespace Go.Proofs.YtclojjiiiejfpaaDoor
set_option linter.unusedSimpArgs false
set_option linter.unusedVariables false
set_option maxRecDepth 100000
attribute [local irreducible] Go.X.xE
open Go Go.X Go.RowKit

/-! ## BatchOnly -/
theorem bonly_ok {b : Bt} {vv bv : Value} {l : List UInt8} {n : Int} {c : UInt8} {w : World} (hgl : Glob w) (h : SlT w encS vv b.v) (hb : SlT w encB bv l) :
    Gives Tryd.prog 15 #[vBt b vv, bv, .int .i64 n, .int .u8 c.toNat] w fun u w' => u = .bool true ∧ Kept [] w w' := by
  refine C_stavelaw15_BatchOnly ?_
  unfold S_stavelaw15_BatchOnly
  refine xE_box fun w1 hb1 hk1 hz1 => ?_
  have hb1' : Blk w1 w.heap.size 63 (encBt b vv) := hb1
  refine xE_slice0 EL_25 fun w2 ho2 hk2 hz2 => ?_
  have hk02 := hk1.then hk2 (by simp)
  obtain ⟨L0, L1, L2, L3, L4⟩ := ldBt (hb1'.kept hk2 (by simp))
  simp only [L4]
  refine few4S (h.kept0 hk02) fun vv3 w3 hv3 hk3 _ _ => ?_
  have hfl := fewB_len b
  refine bPutS hv3 (by omega) fun pv w4 hp4 hk4 => ?_
  have hk24 := hk3.then hk4 (by simp)
  have hk04 := hk02.then hk24 (by simp)
  have hple := Bt.bytes_le (fewB b)
  generalize (fewB b).bytes = p at *
  refine xE_appendSrc EL_25 (ho2.kept hk24 (by simp)) (src_slT hp4) (by omega) (by unfold maxLen; omega) fun ov w5 F5 ho5 hk5 hF5 _ => ?_
  rw [Nat.zero_add, List.nil_append] at ho5
  have hz1' := hk1.size
  have hz24 := hk24.size
  have hk05 : Kept [] w w5 := hk04.then hk5 (by intro k hk; simp at hk; subst hk; right; omega)
  have hF5' : ∀ g ∈ F5, w.heap.size ≤ g := fun g hg => by
    rcases hF5 g hg with h | h
    · simp at h; omega
    · have := hk04.size; omega
  refine xJoin_of (fun ls w' => ∃ v own, ls = [v] ∧ SlT w' encB v own ∧ own.length ≤ 1000 ∧ Kept [] w w') ?_ ?_
  · obtain ⟨oa, oc, rfl, _, _⟩ := ho5.slice
    simp only [xP_nil, xP_pick, xP_func, xP_not, xP_add, xP_sub, xP_mul, xP_lss, xP_leq, xP_gtr, xP_geq, xP_max2, xP_min2, xR_eql, xR_neq, Nat.zero_add, Nat.add_zero, Nat.reduceAdd, List.getD_cons_zero, List.getD_cons_succ, xIf_true, xIf_false, FA_23_0, FA_23_1, FA_23_2, FA_23_3, FA_23_4, FA_32_0, FA_32_1, FA_32_2, FA_63_0, FA_63_1, FA_63_2, FA_63_3, FA_80_0, FA_80_1, FA_80_2, FA_85_0, FA_85_1, FA_85_2, LEN_24, LEN_25, LEN_30, LEN_33, LEN_58, LEN_82, LEN_134]
    by_cases hp0 : p.length = 0
    · rw [decide_eq_true (show ((p.length : Nat) : Int) = 0 by omega)]
      simp only [xIf_true]
      refine cutS (m := 60) (hb.kept0 hk05) (by omega) fun u w6 F6 ho6 hF6 hk6 => ?_
      exact ⟨u, _, rfl, ownBytes ho6, by rw [List.length_take]; omega, hk05.then hk6 (by simp)⟩
    · rw [decide_eq_false (show ¬ ((p.length : Nat) : Int) = 0 by omega)]
      simp only [xIf_false]
      have key := flipS (n := n) (c := c) (K := fun w' => ∃ v own, [Value.slice oa p.length oc] = [v] ∧ SlT w' encB v own ∧ own.length ≤ 1000 ∧ Kept [] w w') ho5 (by omega) (by omega) (fun i hi w6 ho6 hk6 => ⟨_, p.set i (p[i] ^^^ c), rfl, by have := ho6; rw [show p.length = (p.set i (p[i] ^^^ c)).length by simp] at this; have := ownBytes this; rwa [List.length_set] at this, by rw [List.length_set]; omega, hk05.then hk6 (fun g hg => .inr (hF5' g hg))⟩)
      simp only [xP_nil, xP_pick, xP_func, xP_not, xP_add, xP_sub, xP_mul, xP_lss, xP_leq, xP_gtr, xP_geq, xP_max2, xP_min2, xR_eql, xR_neq, Nat.zero_add, Nat.add_zero, Nat.reduceAdd, List.getD_cons_zero, List.getD_cons_succ, xIf_true, xIf_false, FA_23_0, FA_23_1, FA_23_2, FA_23_3, FA_23_4, FA_32_0, FA_32_1, FA_32_2, FA_63_0, FA_63_1, FA_63_2, FA_63_3, FA_80_0, FA_80_1, FA_80_2, FA_85_0, FA_85_1, FA_85_2, LEN_24, LEN_25, LEN_30, LEN_33, LEN_58, LEN_82, LEN_134] at key
      exact key
  rintro _ _ w6 ⟨v, own, rfl, hown, hol, hk06⟩
  simp only [List.getD_cons_zero]
  refine bgetS hown (by omega) fun gv w7 hg7 hgl7 hk7 => ?_
  have hk07 := hk06.then hk7 (by simp)
  simp only [xP_ex0, xP_ex1]
  refine newBt hg7.one fun w8 hb8 hk8 => ?_
  have hk08 := hk07.then hk8 (by simp)
  have hg8 := hg7.kept0 hk8
  obtain ⟨M0, M1, M2, M3, M4⟩ := ldBt hb8
  refine optV_neq.2 ?_
  cases hgg : btGet own with
  | error e =>
    rw [hgg] at hb8 hg8 M4 hgl7
    simp only [erOf, Option.isSome_some, xIf_true]
    simp only [M4]
    refine (xP_build btBuild0).2 ?_
    refine same4S (b := bt0) (c := bt0) hg8 (SlT.nil_ _ _) (by simp [bt0]) fun w9 hk9 => ?_
    simp only [decide_true, xIf_true]
    exact bRunsG hgl (hk08.then hk9 (by simp))
  | ok y =>
    rw [hgg] at hb8 hg8 M4 hgl7
    obtain ⟨hr, hby⟩ := btGet_ok hgg
    simp only [erOf, Option.isSome_none, xIf_false]
    simp only [M4]
    have hgl7 : y.v.length ≤ 255 := hgl7
    refine brightS (b := y) hg8 (by omega) fun w9 hk9 => ?_
    rw [hr]
    simp only [xIf_true]
    obtain ⟨N0, N1, N2, N3, N4⟩ := ldBt (hb8.kept hk9 (by simp))
    simp only [N4]
    refine bPutS (b := y) (hg8.kept0 hk9) (by omega) fun qv w10 hq10 hk10 => ?_
    have hk710 := (hk8.then hk9 (by simp)).then hk10 (by simp)
    rw [hby] at hq10
    refine bytesS hq10 ((hown.kept0 hk7).kept0 hk710) (by omega) fun w11 hk11 => ?_
    simp only [decide_true, xIf_true]
    exact bRunsG hgl ((hk07.then hk710 (by simp)).then hk11 (by simp))

/-! ## BatchTells -/
theorem btells_ok {b : Bt} {vv bv : Value} {l : List UInt8} {n : Int} {c : UInt8} {w : World} (hgl : Glob w) (h : SlT w encS vv b.v) (hb : SlT w encB bv l) :
    Gives Tryd.prog 12 #[vBt b vv, bv, .int .i64 n, .int .u8 c.toNat] w fun u w' => u = .bool true ∧ Kept [] w w' := by
  refine C_stavelaw15_BatchTells ?_
  unfold S_stavelaw15_BatchTells
  refine xE_box fun w1 hb1 hk1 hz1 => ?_
  have hb1' : Blk w1 w.heap.size 63 (encBt b vv) := hb1
  obtain ⟨L0, L1, L2, L3, L4⟩ := ldBt hb1'
  simp only [L4]
  refine few4S (h.kept0 hk1) fun vv2 w2 hv2 hk2 _ _ => ?_
  have hfl := fewB_len b
  have hk02 := hk1.then hk2 (by simp)
  generalize fewB b = y at *
  refine newBt hv2.one fun w3 hb3 hk3 => ?_
  have hk03 := hk02.then hk3 (by simp)
  generalize w2.heap.size = Y at *
  have hv3 := hv2.kept0 hk3
  obtain ⟨M0, M1, M2, M3, M4⟩ := ldBt hb3
  simp only [M4]
  refine bPutS hv3 (by omega) fun pv w4 hp4 hk4 => ?_
  have hk04 := hk03.then hk4 (by simp)
  have hple := Bt.bytes_le y
  have hpos := Bt.bytes_pos y
  obtain ⟨pa, pc, rfl, q1, q2⟩ := hp4
  have hp4 : SlT w4 encB (.slice pa y.bytes.length pc) y.bytes := ⟨pa, pc, rfl, q1, q2⟩
  refine xJoin_of (fun ls w' => ls = [.bool false] ∧ Kept [] w4 w') ?_ ?_
  · have hd := kept_drew [] w4
    have hb4 := (hb3.kept hk4 (by simp)).kept hd (by simp)
    have hv4 := (hv3.kept0 hk4).kept0 hd
    obtain ⟨N0, N1, N2, N3, N4⟩ := ldBt hb4
    simp only [N4]
    refine brightS hv4 (by omega) fun w5 hk5 => ?_
    refine (stBt (hb4.kept hk5 (by simp))).2 ?_
    refine dright4S (hv4.kept0 hk5) (by omega) fun w6 hk6 => ?_
    have hk46 := hk5.then hk6 (by simp)
    refine (xR_neqBool BOOLG).2 ?_
    simp only [beq_self_eq_true, Bool.not_true, xIf_false]
    obtain ⟨O0, O1, O2, O3, O4⟩ := ldBt (hb4.kept hk46 (by simp))
    simp only [O4]
    refine dPut4S (hv4.kept0 hk46) (by omega) fun qv w7 hq7 hk7 => ?_
    have hk47 := hk46.then hk7 (by simp)
    refine bytesS ((hp4.kept0 hd).kept0 hk47) hq7 (by omega) fun w8 hk8 => ?_
    have hk48 := hk47.then hk8 (by simp)
    simp only [decide_true, xP_not, Bool.not_true, xIf_false]
    obtain ⟨P0, P1, P2, P3, P4⟩ := ldBt (hb4.kept hk48 (by simp))
    simp only [xP_nil, xP_pick, xP_func, xP_not, xP_add, xP_sub, xP_mul, xP_lss, xP_leq, xP_gtr, xP_geq, xP_max2, xP_min2, xR_eql, xR_neq, Nat.zero_add, Nat.add_zero, Nat.reduceAdd, List.getD_cons_zero, List.getD_cons_succ, xIf_true, xIf_false, FA_23_0, FA_23_1, FA_23_2, FA_23_3, FA_23_4, FA_32_0, FA_32_1, FA_32_2, FA_63_0, FA_63_1, FA_63_2, FA_63_3, FA_80_0, FA_80_1, FA_80_2, FA_85_0, FA_85_1, FA_85_2, LEN_24, LEN_25, LEN_30, LEN_33, LEN_58, LEN_82, LEN_134, P4, xIf_dec]
    refine ⟨fun _ => ?_, fun _ => ⟨trivial, hd.then hk48 (by simp)⟩⟩
    refine bsizeS (hv4.kept0 hk48) (by omega) fun w9 hk9 => ?_
    simp only [xR_neq, ne_eq, not_true_eq_false, decide_false]
    exact ⟨trivial, (hd.then hk48 (by simp)).then hk9 (by simp)⟩
  rintro _ _ w5 ⟨rfl, hk5⟩
  have hk05 := hk04.then hk5 (by simp)
  have hp5 := hp4.kept0 hk5
  simp only [List.getD_cons_zero, xIf_false]
  refine cutS (m := 100) (hb.kept0 hk05) (by omega) fun u6 w6 F6 ho6 hF6 hk6 => ?_
  have hk06 := hk05.then hk6 (by simp)
  refine xJoin_of (fun ls w' => ∃ v own, ls = [v] ∧ SlT w' encB v own ∧ own.length ≤ 1000 ∧ Kept [] w w') ?_ ?_
  · simp only [xP_nil, xP_pick, xP_func, xP_not, xP_add, xP_sub, xP_mul, xP_lss, xP_leq, xP_gtr, xP_geq, xP_max2, xP_min2, xR_eql, xR_neq, Nat.zero_add, Nat.add_zero, Nat.reduceAdd, List.getD_cons_zero, List.getD_cons_succ, xIf_true, xIf_false, FA_23_0, FA_23_1, FA_23_2, FA_23_3, FA_23_4, FA_32_0, FA_32_1, FA_32_2, FA_63_0, FA_63_1, FA_63_2, FA_63_3, FA_80_0, FA_80_1, FA_80_2, FA_85_0, FA_85_1, FA_85_2, LEN_24, LEN_25, LEN_30, LEN_33, LEN_58, LEN_82, LEN_134, xIf_dec]
    refine ⟨fun hpos => ?_, fun _ => ⟨u6, _, rfl, ownBytes ho6, by rw [List.length_take]; omega, hk06⟩⟩
    refine copyS (hp5.kept0 hk6) (by omega) fun u7 w7 F7 ho7 hF7 hk7 => ?_
    have hk07 := hk06.then hk7 (by simp)
    refine flipS (c := c) ho7 (by omega) (by omega) fun i hi w8 ho8 hk8 => ?_
    have hz6 := hk06.size
    exact ⟨u7, y.bytes.set i (y.bytes[i] ^^^ c), rfl, by have := ho8; rw [show y.bytes.length = (y.bytes.set i (y.bytes[i] ^^^ c)).length by simp] at this; exact ownBytes this, by rw [List.length_set]; omega, hk07.then hk8 (fun g hg => .inr (by have := hF7 g hg; omega))⟩
  rintro _ _ w7 ⟨v, own, rfl, hown, hol, hk07⟩
  simp only [List.getD_cons_zero]
  refine xE_call CF_27 (roomyB_ok (m := 7) hown (by omega)) ?_
  rintro _ w8 ⟨g, rfl, hg8, hgw, hk8⟩
  obtain ⟨oa, oc, rfl, hoc, hor⟩ := hown
  have hown : SlT w7 encB (.slice oa own.length oc) own := ⟨oa, oc, rfl, hoc, hor⟩
  have hfull : SlT w8 encB (.slice (some ⟨g, 0, none⟩) (own.length + 80) (own.length + 80)) (own ++ List.replicate 80 7) := by
    have := slT_blk (l := own ++ List.replicate 80 (7 : UInt8)) hg8
    rwa [List.length_append, List.length_replicate] at this
  try simp only [xP_nil, xP_pick, xP_func, xP_not, xP_add, xP_sub, xP_mul, xP_lss, xP_leq, xP_gtr, xP_geq, xP_max2, xP_min2, xR_eql, xR_neq, Nat.zero_add, Nat.add_zero, Nat.reduceAdd, List.getD_cons_zero, List.getD_cons_succ, xIf_true, xIf_false, FA_23_0, FA_23_1, FA_23_2, FA_23_3, FA_23_4, FA_32_0, FA_32_1, FA_32_2, FA_63_0, FA_63_1, FA_63_2, FA_63_3, FA_80_0, FA_80_1, FA_80_2, FA_85_0, FA_85_1, FA_85_2, LEN_24, LEN_25, LEN_30, LEN_33, LEN_58, LEN_82, LEN_134]
  refine (xP_upto SL_25 SZ_5 (by omega) (by omega)).2 ?_
  rw [Int.toNat_natCast]
  have hcut := SlT.upto (j := own.length) encB_len (by have := hfull; rw [show own.length + 80 = (own ++ List.replicate 80 (7 : UInt8)).length by simp] at this; exact this) (by simp)
  rw [List.take_left] at hcut
  have hcut' : SlT w8 encB (.slice (if own.length + 80 = 0 then some ⟨g, 0, none⟩ else (some (⟨g, 0, none⟩ : Addr)).map (·.add (0 * 1))) own.length (own.length + 80)) own := by
    have := hcut
    rw [List.length_append, List.length_replicate] at this
    exact this
  have hk08 := hk07.then hk8 (by simp)
  refine bgetS hcut' (by omega) fun gv w9 hg9 hgl9 hk9 => ?_
  simp only [xP_ex0, xP_ex1]
  have hk09 := hk08.then hk9 (by simp)
  refine newBt hg9.one fun w10 hb10 hk10 => ?_
  have hk010 := hk09.then hk10 (by simp)
  have hk710 := (hk8.then hk9 (by simp)).then hk10 (by simp)
  generalize w9.heap.size = G at *
  refine dbgetS (hown.kept0 hk710) (by omega) fun dv w11 hd11 hdl11 hk11 => ?_
  simp only [xP_ex0, xP_ex1]
  have hk011 := hk010.then hk11 (by simp)
  refine newBt hd11.one fun w12 hb12 hk12 => ?_
  have hk012 := hk011.then hk12 (by simp)
  have hk1012 := hk11.then hk12 (by simp)
  generalize w11.heap.size = D at *
  obtain ⟨N0, N1, N2, N3, N4⟩ := ldBt (hb10.kept hk1012 (by simp))
  obtain ⟨O0, O1, O2, O3, O4⟩ := ldBt hb12
  simp only [N4, O4]
  refine same4S ((hg9.kept0 hk10).kept0 hk1012) (hd11.kept0 hk12) (by omega) fun w13 hk13 => ?_
  have hk013 := hk012.then hk13 (by simp)
  simp only [decide_true, xIf_true]
  refine kindS (fun x hx => erOf_plain x hx) (hgl.kept0 hk013) fun w14 hk14 => ?_
  have hk014 := hk013.then hk14 (by simp)
  simp only [xR_eql, decide_true, xIf_true]
  have hk714 := ((hk710.then hk1012 (by simp)).then hk13 (by simp)).then hk14 (by simp)
  have hk814 := (((hk9.then hk10 (by simp)).then hk1012 (by simp)).then hk13 (by simp)).then hk14 (by simp)
  refine xE_call CF_30 (intactB_ok (m := 7) (full := own ++ List.replicate 80 7) (was := own) (hfull.kept0 hk814) (hown.kept0 hk714) (by omega) rfl) ?_
  rintro _ w15 ⟨rfl, hk15⟩
  simp only [xIf_true]
  exact bRunsG hgl (hk014.then hk15 (by simp))
end Go.Proofs.YtclojjiiiejfpaaDoor
