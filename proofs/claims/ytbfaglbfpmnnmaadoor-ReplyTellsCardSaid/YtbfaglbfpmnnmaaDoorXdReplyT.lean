import Derived.Test.YtbfaglbfpmnnmaaDoorXdReplyR2
import Derived.Test.YtbfaglbfpmnnmaaDoorXdSame2
import Derived.Test.YtbfaglbfpmnnmaaDoorXdFaultO
namespace Go.Proofs.YtbfaglbfpmnnmaaDoor
set_option linter.unusedSimpArgs false
set_option linter.unusedVariables false
set_option maxRecDepth 100000
attribute [local irreducible] Go.X.xE
open Go Go.X Go.RowKit

theorem BOOLR : boolB Tryd.prog 4 := by unfold boolB; kernel_rfl
theorem rpGet_plain {b : List UInt8} {e : Er} (h : rpGet b = .error e) : Er.plain e := by
  unfold rpGet at h
  split at h
  · simp at h; subst h; exact trivial
  · split at h
    · split at h
      · simp at h; subst h; exact trivial
      · simp only at h
        split at h
        · cases h
        · simp at h; subst h; exact trivial
    · simp at h; subst h; exact trivial
/-- A new variable that gets a reply. -/
theorem newR {x : RawRp} {r : Rp} {w : World} {K : Value → World → Prop} (h : IsRp w x r) (k : ∀ w', Blk w' w.heap.size 56 (encR x) → Kept [] w w' → K (.pointer (some ⟨w.heap.size, 0, none⟩)) w') :
    xE Tryd.prog (sAlloc 56) w fun v w1 => xE Tryd.prog (sStore 56 v (vR x)) w1 fun _ w2 => K v w2 := by
  refine xE_alloc Z_56 fun w1 hb1 hk1 hz1 => ?_
  refine xE_storeN (l1 := []) (l2 := encR rawRp0) (l3 := []) SZ_56 hb1 rfl rfl rfl h.one fun w2 hb2 hk2 hz2 => ?_
  exact k w2 (by simpa [vR, Value.cells] using hb2) (hk1.trans hk2 (by simp) (by simp))
theorem ldR0 {w : World} {b : Nat} {x : RawRp} {K : Value → Prop} (h : Blk w b 56 (encR x)) : xR Tryd.prog (sLoad 56 (.pointer (some ⟨b, 0, none⟩))) w K ↔ K (vR x) := ldN (l := encR x) AGG_56 h.at
theorem stR0 {w : World} {b : Nat} {x : RawRp} {B : Prop} (h : Blk w b 56 (encR x)) : xStill Tryd.prog (sLoad 56 (.pointer (some ⟨b, 0, none⟩))) (vR x) w B ↔ B := stillN (l := encR x) AGG_56 h.at

theorem tells_ok {x : RawRp} {r : Rp} {b : List UInt8} {a1 : Value} {n : Int} {c : UInt8} {w : World} (hgl : Glob w) (h : IsRp w x r) (hb : SlT w encB a1 b) :
    Gives Tryd.prog 9 #[vR x, a1, .int .i64 n, .int .u8 c.toNat] w fun u w' => u = .bool true ∧ Kept [] w w' := by
  refine C_stavelaw23_ReplyTells ?_
  unfold S_stavelaw23_ReplyTells
  refine xE_box fun w1 hb1 hk1 hz1 => ?_
  have hb1' : Blk w1 w.heap.size 56 (encR x) := hb1
  refine (ldR0 hb1').2 ?_
  refine xE_call CF_20 (few_ok (h.kept0 hk1)) ?_
  rintro _ w2 ⟨y, rfl, hy, hk2⟩
  have hok := fewR_ok r
  have hpl := bytes_len (fewR r)
  generalize fewR r = s at *
  refine newR hy fun w3 hb3 hk3 => ?_
  have hk03 := (hk1.then hk2 (by simp)).then hk3 (by simp)
  generalize w2.heap.size = V at *
  refine (ldR0 hb3).2 ?_
  have hy3 := hy.kept0 hk3
  refine xE_call CF_21 (rPut_ok hy3 hok) ?_
  intro p w4 hfr
  have hk34 := hfr.keptI
  have hk04 := hk03.then hk34 (by simp)
  have hp4 := hfr.slT
  refine xJoin_of (fun vs w' => vs = [.bool false] ∧ Kept [] w4 w') ?_ ?_
  · have hd := kept_drew [] w4
    have hb4 := (hb3.kept hk34 (by simp)).kept hd (by simp)
    have hy4 := (hy3.kept0 hk34).kept0 hd
    refine (ldR0 hb4).2 ?_
    refine (ldR0 hb4).2 ?_
    refine xE_call CF_22 (rright_ok hy4 hok) ?_
    rintro _ w5 ⟨rfl, hk5⟩
    refine (stR0 (hb4.kept hk5 (by simp))).2 ?_
    refine xE_call CF_23 (drright_ok (hy4.kept0 hk5) hok) ?_
    rintro _ w6 ⟨rfl, hk6⟩
    refine (xR_neqBool BOOLR).2 ?_
    simp only [beq_self_eq_true, Bool.not_true, xIf_false]
    have hk46 := (hd.then hk5 (by simp)).then hk6 (by simp)
    refine (ldR0 ((hb3.kept hk34 (by simp)).kept hk46 (by simp))).2 ?_
    refine xE_call CF_25 (drPut_ok ((hy3.kept0 hk34).kept0 hk46) hok) ?_
    intro q w7 hfr7
    have hk47 := hk46.then hfr7.keptI (by simp)
    refine xE_call CF_24 (sameB_ok (hp4.kept0 hk47) hfr7.slT (by omega)) ?_
    rintro _ w8 ⟨rfl, hk8⟩
    simp only [decide_true, xP_not, Bool.not_true]
    exact ⟨trivial, hk47.then hk8 (by simp)⟩
  rintro _ _ w5 ⟨rfl, hk45⟩
  have hk05 := hk04.then hk45 (by simp)
  have hp5 := hp4.kept0 hk45
  simp only [xIf_false, List.getD_cons_zero]
  refine cutS (m := 100) (hb.kept0 hk05) (by omega) fun u6 w6 F6 ho6 hF6 hk6 => ?_
  have hk06 := hk05.then hk6 (by simp)
  generalize hbytes : s.bytes = pb at *
  refine xJoin_of (fun vs w' => ∃ v own, vs = [v] ∧ SlT w' encB v own ∧ own.length ≤ 10000 ∧ Kept [] w w') ?_ ?_
  · obtain ⟨pa, pc, rfl, hpc, hpr⟩ := hp5
    have hp6 : SlT w6 encB (.slice pa pb.length pc) pb := SlT.kept0 ⟨pa, pc, rfl, hpc, hpr⟩ hk6
    simp only [xP_nil, xP_pick, xP_func, xP_not, xP_add, xP_sub, xP_mul, xP_lss, xP_leq, xP_gtr, xP_geq, xP_max2, xP_min2, xR_eql, xR_neq, Nat.zero_add, Nat.add_zero, Nat.reduceAdd, List.getD_cons_zero, List.getD_cons_succ, xIf_true, xIf_false, FA_25_0, FA_39_0, FA_41_0, FA_41_1, FA_41_2, FA_56_0, FA_56_1, FA_56_2, FA_56_3, FA_56_4, FA_56_5, FA_72_0, FA_79_0, FA_79_1, FA_93_0, FA_93_1, FA_93_2, FA_102_2, FA_123_0, FA_123_1, FA_123_2, FA_123_3, FA_123_4, FA_131_0, FA_131_1, FA_131_2, LEN_35, LEN_45, LEN_49, LEN_53, LEN_54, LEN_57, LEN_86, LEN_88, LEN_147, xIf_dec]
    refine ⟨fun hpos => ?_, fun hzero => ⟨u6, _, rfl, ownBytes ho6, by rw [List.length_take]; omega, hk06⟩⟩
    refine copyS hp6 (by omega) fun u7 w7 F7 ho7 hF7 hk7 => ?_
    refine flipS (c := c) ho7 (by omega) (by omega) fun i hi w8 ho8 hk8 => ?_
    have hz6 := hk06.size
    exact ⟨u7, pb.set i (pb[i] ^^^ c), rfl, by have := ho8; rw [show pb.length = (pb.set i (pb[i] ^^^ c)).length by simp] at this; exact ownBytes this, by rw [List.length_set]; omega, (hk06.then hk7 (by simp)).then hk8 (fun g hg => .inr (by have := hF7 g hg; omega))⟩
  · rintro _ _ w7 ⟨v, own, rfl, hown, hol, hk7⟩
    simp only [List.getD_cons_zero]
    refine xE_call CF_26 (roomyB_ok (m := 7) hown (by omega)) ?_
    rintro _ w8 ⟨g, rfl, hg8, hgw, hk8⟩
    obtain ⟨oa, oc, rfl, hoc, hor⟩ := hown
    have hown : SlT w7 encB (.slice oa own.length oc) own := ⟨oa, oc, rfl, hoc, hor⟩
    have hfull : SlT w8 encB (.slice (some ⟨g, 0, none⟩) (own.length + 80) (own.length + 80)) (own ++ List.replicate 80 7) := by
      have := slT_blk (l := own ++ List.replicate 80 (7 : UInt8)) hg8
      rwa [List.length_append, List.length_replicate] at this
    simp only [xP_nil, xP_pick, xP_func, xP_not, xP_add, xP_sub, xP_mul, xP_lss, xP_leq, xP_gtr, xP_geq, xP_max2, xP_min2, xR_eql, xR_neq, Nat.zero_add, Nat.add_zero, Nat.reduceAdd, List.getD_cons_zero, List.getD_cons_succ, xIf_true, xIf_false, FA_25_0, FA_39_0, FA_41_0, FA_41_1, FA_41_2, FA_56_0, FA_56_1, FA_56_2, FA_56_3, FA_56_4, FA_56_5, FA_72_0, FA_79_0, FA_79_1, FA_93_0, FA_93_1, FA_93_2, FA_102_2, FA_123_0, FA_123_1, FA_123_2, FA_123_3, FA_123_4, FA_131_0, FA_131_1, FA_131_2, LEN_35, LEN_45, LEN_49, LEN_53, LEN_54, LEN_57, LEN_86, LEN_88, LEN_147]
    refine (xP_upto SL_57 SZ_5 (by omega) (by omega)).2 ?_
    rw [Int.toNat_natCast]
    have hcut := SlT.upto (j := own.length) encB_len (by have := hfull; rw [show own.length + 80 = (own ++ List.replicate 80 (7 : UInt8)).length by simp] at this; exact this) (by simp)
    rw [List.take_left] at hcut
    have hcut' : SlT w8 encB (.slice (if own.length + 80 = 0 then some ⟨g, 0, none⟩ else (some (⟨g, 0, none⟩ : Addr)).map (·.add (0 * 1))) own.length (own.length + 80)) own := by
      have := hcut
      rw [List.length_append, List.length_replicate] at this
      exact this
    refine xE_call CF_27 (rGet_ok hcut' (by omega)) ?_
    rintro r9 w9 ⟨hk9, hg9⟩
    have hk09 := (hk7.then hk8 (by simp)).then hk9 (by simp)
    have hk79 := hk8.then hk9 (by simp)
    -- what was got
    obtain ⟨xg, rg, er, rfl, hxg, hres⟩ : ∃ (xg : RawRp) (rg : Rp) (er : Option Er), r9 = .tuple #[vR xg, optV er] ∧ IsRp w9 xg rg ∧
        ((er = none ∧ rpGet own = .ok rg ∧ okRp rg) ∨ ∃ e, er = some e ∧ rpGet own = .error e ∧ rg = rpZero ∧ xg = rawRp0) := by
      cases hgg : rpGet own with
      | error e =>
        rw [hgg] at hg9
        exact ⟨rawRp0, rpZero, some e, hg9, isRp0 _, .inr ⟨e, rfl, rfl, rfl, rfl⟩⟩
      | ok g =>
        rw [hgg] at hg9
        obtain ⟨xg, hu, hxg⟩ := hg9
        exact ⟨xg, g, none, hu, hxg, .inl ⟨rfl, rfl, fit_ok ((rp_right g).1 (rpGet_inv hgg).1).1⟩⟩
    simp only [xP_ex0, xP_ex1]
    refine newR hxg fun w10 hb10 hk10 => ?_
    have hk710 := hk79.then hk10 (by simp)
    refine xE_call CF_28 (drGet_ok (hown.kept0 hk710) (by omega)) ?_
    rintro r11 w11 ⟨hk11, hg11⟩
    have hk711 := hk710.then hk11 (by simp)
    have hx11 := (hxg.kept0 hk10).kept0 hk11
    have hb11 := hb10.kept hk11 (by simp)
    obtain ⟨xd, rfl, hxd, hlen1, hlen2⟩ : ∃ xd : RawRp, r11 = .tuple #[vR xd, .int .i64 (optKind er)] ∧ IsRp w11 xd rg ∧ rg.names.length ≤ 9223372036854775806 ∧ rg.batches.length ≤ 9223372036854775806 := by
      rcases hres with ⟨rfl, hgg, hokg⟩ | ⟨e, rfl, hgg, rfl, rfl⟩
      · rw [hgg] at hg11
        obtain ⟨xd, hu, hxd⟩ := hg11
        exact ⟨xd, hu, hxd, by have := hokg.1; omega, by have := hokg.2.1; omega⟩
      · rw [hgg] at hg11
        exact ⟨rawRp0, hg11, isRp0 _, by simp [rpZero], by simp [rpZero]⟩
    simp only [xP_ex0, xP_ex1]
    refine newR hxd fun w12 hb12 hk12 => ?_
    have hk712 := hk711.then hk12 (by simp)
    refine (ldR0 (hb11.kept hk12 (by simp))).2 ?_
    refine (ldR0 hb12).2 ?_
    refine xE_call CF_29 (replies_ok (hx11.kept0 hk12) (hxd.kept0 hk12) hlen1 hlen2) ?_
    rintro _ w13 ⟨rfl, hk13⟩
    rw [(rpEq_iff rg rg).2 rfl]
    simp only [xIf_true]
    have hk713 := hk712.then hk13 (by simp)
    have hk013 := hk7.then hk713 (by simp)
    refine kindS (fun z hz => ?_) (hgl.kept0 hk013) fun w14 hk14 => ?_
    · rcases hres with ⟨rfl, hgg, hokg⟩ | ⟨e, rfl, hgg, rfl, rfl⟩
      · cases hz
      · cases hz; exact rpGet_plain hgg
    simp only [xR_eql, decide_true, xIf_true]
    have hk714 := hk713.then hk14 (by simp)
    have hk814 : Kept [] w8 w14 := ((((hk9.then hk10 (by simp)).then hk11 (by simp)).then hk12 (by simp)).then hk13 (by simp)).then hk14 (by simp)
    refine xE_call CF_30 (intactB_ok (m := 7) (full := own ++ List.replicate 80 7) (was := own) (hfull.kept0 hk814) (hown.kept0 hk714) (by omega) rfl) ?_
    rintro _ w15 ⟨rfl, hk15⟩
    simp only [xIf_true]
    refine xE_call CF_31 replyRuns_ok ?_
    rintro _ w16 ⟨rfl, hk16⟩
    exact ⟨rfl, ((hk7.then hk714 (by simp)).then hk15 (by simp)).then hk16 (by simp)⟩
end Go.Proofs.YtbfaglbfpmnnmaaDoor
