import Derived.Test.YtpgfmpjepoedjaaDoorXfFaultQ2
import Derived.Test.YtpgfmpjepoedjaaDoorXfWith
import Derived.Test.YtpgfmpjepoedjaaDoorXfDoorP
namespace Go.Proofs.YtpgfmpjepoedjaaDoor
set_option linter.unusedSimpArgs false
set_option linter.unusedVariables false
set_option maxRecDepth 100000
attribute [local irreducible] Go.X.xE
open Go Go.X Go.Extern Go.RowKit

/-! ## FaultRuns -/
theorem xStill_xR {s : Sem Next} {u : Value} {w : World} {B : Prop} (h : xR Tryd.prog s w fun v => v = u) : xStill Tryd.prog s u w B ↔ B := xStill_of (by obtain ⟨v, hv, rfl⟩ := h; exact hv)
theorem wrapS {op : ByteArray} {at_ : Int} {e : Er} {w : World} {K : Value → World → Prop} (k : K (erV (.flt op at_ e)) w) : xE Tryd.prog (sCall 7 #[.string op, .int .i64 at_, erV e]) w K :=
  xE_call CF_7 wrapE_ok (fun u w' ⟨h1, h2⟩ => by subst h1; subst h2; exact k)
theorem wrapN {op : ByteArray} {at_ : Int} {w : World} {K : Value → World → Prop} (k : K .nilIface w) : xE Tryd.prog (sCall 7 #[.string op, .int .i64 at_, .nilIface]) w K :=
  xE_call CF_7 wrapNil_ok (fun u w' ⟨h1, h2⟩ => by subst h1; subst h2; exact k)
theorem kindQ {e : Er} {w : World} {K : Value → World → Prop} (hg : Glob w) (k : ∀ w', Kept [] w w' → K (.int .i64 ((Er.errno e).getD (if Er.isIt e (.no 6) then 6 else 0))) w') : xE Tryd.prog (sCall 10 #[erV e]) w K :=
  xE_call CF_10 (kindq_ok hg) (fun u w' ⟨h1, h2⟩ => by subst h1; exact k w' h2)
theorem lostQ {e : Er} {w : World} {K : Value → World → Prop} (hg : Glob w) (k : ∀ w', Kept [] w w' → K (.tuple #[vL ((Er.lost e).getD (0, 0, 0)), .bool (Er.lost e).isSome]) w') : xE Tryd.prog (sCall 9 #[erV e]) w K :=
  xE_call CF_9 (lost_ok hg) (fun u w' ⟨h1, h2⟩ => by subst h1; exact k w' h2)
theorem isQ {e t : Er} {w : World} {K : Value → World → Prop} (hb : Er.bare t) (k : ∀ w', Kept [] w w' → K (.bool (Er.isIt e t)) w') : xE Tryd.prog (sCall 15 #[erV e, erV t]) w K :=
  xE_call CF_15 (isq_ok hb) (fun u w' ⟨h1, h2⟩ => by subst h1; exact k w' h2)
theorem errs1 {k : Int} {w : World} {K : Value → World → Prop} (kk : ∀ v w', SlT w' encI v [k] → Kept [] w w' → K v w') : xE Tryd.prog (sBuildSlice 53 1 #[(0, .int .i64 k)]) w K :=
  xE_buildSlice EL_53 [.int .i64 k] rfl rfl (by simp [Value.cells]) (by omega) (by omega) fun w1 hb hk _ => kk _ w1 (slT_blk (l := [k]) (by simpa [Value.cells, encI] using hb)) hk
theorem storeL {t : Nat} {x : Int × Int × Int} {w : World} {K : Value → World → Prop} (hb : Blk w t 29 (encL (0, 0, 0))) (k : ∀ w', Blk w' t 29 (encL x) → Kept [t] w w' → ∀ u, K u w') : xE Tryd.prog (sStore 29 (.pointer (some ⟨t, 0, none⟩)) (vL x)) w K :=
  xE_storeN (v := vL x) (l1 := []) (l2 := encL (0, 0, 0)) (l3 := []) SZ_29 hb rfl rfl rfl (encL_one x) fun w' hb' hk' _ => k w' (by simpa [Value.cells, vL] using hb') hk' _
theorem faultRuns_ok {w : World} (hg : Glob w) : Gives Tryd.prog 3 #[] w fun u w' => u = .bool true ∧ Kept [] w w' := by
  refine C_stavelaw1_FaultRuns ?_
  unfold S_stavelaw1_FaultRuns
  refine (xP_iface CEN).2 ?_
  refine wrapS (e := .no 8) ?_
  refine wrapS ?_
  generalize hop1 : (ByteArray.mk #[97]) = o1 at *
  generalize hop2 : (ByteArray.mk #[98]) = o2 at *
  generalize hop3 : (ByteArray.mk #[99]) = o3 at *
  refine xE_call CF_8 (where_ok (e := .flt o2 2 (.flt o1 1 (.no 8))) trivial (by simp [Er.faults]) hg) ?_
  rintro _ w1 ⟨rfl, hk1⟩
  simp only [Er.where?, whereV, xP_t0, xP_t1, xP_t2]
  refine (xP_build (cells := #[.int .i64 7, .int .i64 1, .int .i64 2]) (by kernel_rfl)).2 ?_
  refine (xP_iface CLO).2 ?_
  refine wrapS (e := .loss 7 1 2) ?_
  refine lostQ (e := .flt o3 3 (.loss 7 1 2)) (hg.kept0 hk1) fun w2 hk2 => ?_
  simp only [xP_ex0, xP_ex1]
  have hk02 := hk1.then hk2 (by simp)
  refine xE_alloc Z_29 fun w3 hb3 hk3 hz3 => ?_
  have hb3 : Blk w3 w2.heap.size 29 (encL (0, 0, 0)) := hb3
  refine storeL (x := (7, 1, 2)) hb3 fun w4 hb4 hk4 _ => ?_
  have hk24 : Kept [] w2 w4 := hk3.then hk4 (by simp)
  have hk04 := hk02.then hk24 (by simp)
  refine kindQ (e := .flt o2 2 (.flt o1 1 (.no 8))) (hg.kept0 hk04) fun w5 hk5 => ?_
  simp only [Er.errno, Option.getD_some, xR_eql, xR_eqlStr, decide_true, xIf_true]
  have hk05 := hk04.then hk5 (by simp)
  refine xE_call CF_12 (path_ok (e := .flt o2 2 (.flt o1 1 (.no 8))) trivial (by simp [Er.faults]) (hg.kept0 hk05)) ?_
  rintro u w6 ⟨hu, hk6⟩
  have hk06 := hk05.then hk6 (by simp)
  refine xE_buildSlice EL_34 [.string o2, .string o1] rfl rfl (by simp [Value.cells]) (by omega) (by omega) fun w7 hb7 hk7 _ => ?_
  have hv7 : SlT w7 encS (.slice (some ⟨w6.heap.size, 0, none⟩) 2 2) [o2, o1] := slT_blk (l := [o2, o1]) (by simpa [Value.cells, encS] using hb7)
  have hk07 := hk06.then hk7 (by simp)
  refine xE_call CF_11 (sameSq (hu.kept0 hk7) hv7 (by simp [Er.faults])) ?_
  rintro _ w8 ⟨rfl, hk8⟩
  have hk08 := hk07.then hk8 (by simp)
  simp only [Er.faults, List.map_cons, List.map_nil, decide_true, xIf_true]
  refine xE_buildSlice EL_53 [.int .i64 10, .int .i64 8] rfl rfl (by simp [Value.cells]) (by omega) (by omega) fun w9 hb9 hk9 _ => ?_
  have hv9 : SlT w9 encI (.slice (some ⟨w8.heap.size, 0, none⟩) 2 2) [10, 8] := slT_blk (l := [10, 8]) (by simpa [Value.cells, encI] using hb9)
  have hk09 := hk08.then hk9 (by simp)
  refine xE_call CF_13 (first_ok (e := .flt o2 2 (.flt o1 1 (.no 8))) hv9 (by simp)) ?_
  rintro _ w10 ⟨rfl, hk10⟩
  have hk0A := hk09.then hk10 (by simp)
  rw [show firstP (.flt o2 2 (.flt o1 1 (.no 8))) [10, 8] = 1 from rfl]
  simp only [xR_eql, decide_true, xIf_true]
  refine kindQ (e := .flt o3 3 (.loss 7 1 2)) (hg.kept0 hk0A) fun w11 hk11 => ?_
  rw [show (Er.errno (.flt o3 3 (.loss 7 1 2))).getD (if Er.isIt (.flt o3 3 (.loss 7 1 2)) (.no 6) then 6 else 0) = 6 from rfl]
  simp only [Er.lost, Option.isSome_some, xR_eql, decide_true, xIf_true]
  have hk0B := hk0A.then hk11 (by simp)
  have hk4B := ((((((hk5.then hk6 (by simp)).then hk7 (by simp)).then hk8 (by simp)).then hk9 (by simp)).then hk10 (by simp)).then hk11 (by simp))
  refine (ldN (l := encL (7, 1, 2)) AGG_29 (hb4.kept hk4B (by simp)).at).2 ?_
  refine (xP_build (cells := #[.int .i64 7, .int .i64 1, .int .i64 2]) (by kernel_rfl)).2 ?_
  refine eqLs.2 ?_
  simp only [beq_self_eq_true, Bool.and_self, xIf_true]
  refine errs1 fun v w12 hv12 hk12 => ?_
  refine xE_call CF_13 (first_ok (e := .flt o3 3 (.loss 7 1 2)) hv12 (by simp)) ?_
  rintro _ w13 ⟨rfl, hk13⟩
  rw [show firstP (.flt o3 3 (.loss 7 1 2)) [6] = 0 from rfl]
  simp only [xR_eql, decide_true]
  exact ⟨by trivial, (hk0B.then hk12 (by simp)).then hk13 (by simp)⟩
theorem fRunsG {w w' : World} (hg : Glob w) (hk : Kept [] w w') : xE Tryd.prog (sCall 3 #[]) w' fun v w'' => Ret (fun u w' => u = .bool true ∧ Kept [] w w') (.returned v) w'' := by
  refine xE_call CF_3 (faultRuns_ok (hg.kept0 hk)) ?_
  rintro _ w2 ⟨rfl, hk2⟩
  exact ⟨rfl, hk.then hk2 (by simp)⟩
end Go.Proofs.YtpgfmpjepoedjaaDoor
