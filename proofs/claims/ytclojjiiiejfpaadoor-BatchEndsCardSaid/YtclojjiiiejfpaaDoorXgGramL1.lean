import Derived.Test.YtclojjiiiejfpaaDoorXgGramA
import Derived.Test.YtclojjiiiejfpaaDoorXgGramR3
import Derived.Test.YtclojjiiiejfpaaDoorXgFault3
namespace Go.Proofs.YtclojjiiiejfpaaDoor
set_option linter.unusedSimpArgs false
set_option linter.unusedVariables false
set_option maxRecDepth 100000
attribute [local irreducible] Go.X.xE
open Go Go.X Go.RowKit

/-! ## GramRuns -/
def g3 : List GFd := [⟨1, 2, 0, 999, 0⟩, ⟨2, 0, 1, 3, 0⟩, ⟨3, 0, 0, 2, 1⟩]
def sAB : ByteArray := ⟨#[97, 98]⟩
def sC : ByteArray := ⟨#[99]⟩
def v3 : List GVl := [⟨258, strEmpty, []⟩, ⟨0, sAB, []⟩, ⟨0, strEmpty, [sC]⟩]
def b10 : List UInt8 := [2, 1, 2, 0, 97, 98, 1, 1, 0, 99]
theorem put3 : gramPut g3 v3 = .ok b10 := by kernel_rfl
theorem get3a : gramGet g3 (b10.take 9) = .error (6, 3) := by kernel_rfl
theorem get3b : gramGet g3 ([232, 3] ++ b10.drop 2) = .error (0, 2) := by kernel_rfl
theorem least3 : gramLeast g3 = 6 := by kernel_rfl
theorem buildN {n : Int} : Tryd.prog.built 32 #[(0, Value.int .i64 n)].toList = some (encV ⟨n, strEmpty, .slice none 0 0⟩).toArray := by kernel_rfl
theorem buildS {s : ByteArray} : Tryd.prog.built 32 #[(1, Value.string s)].toList = some (encV ⟨0, s, .slice none 0 0⟩).toArray := by kernel_rfl
theorem buildLV {a : Option Addr} {n c : Nat} : Tryd.prog.built 32 #[(2, Value.slice a n c)].toList = some (encV ⟨0, strEmpty, .slice a n c⟩).toArray := by kernel_rfl
theorem small3 : small g3 := by intro f hf; simp [g3] at hf; rcases hf with rfl | rfl | rfl <;> simp
/-- []T{..} of values. -/
theorem newVals {raws : List RawV} {n : Nat} {parts : Array (Nat × Value)} {w : World} {K : Value → World → Prop} (hn : raws.length = n) (hpos : 0 < n) (hs : n ≤ 1000) (hp : parts.toList = ((raws.map vV).zipIdx).map fun p => (p.2, p.1))
    (k : ∀ u w', SlT w' encV u raws → Kept [] w w' → K u w') : xE Tryd.prog (sBuildSlice 33 n parts) w K := by
  refine xE_buildSlice EL_33 (raws.map vV) hp (by simp [hn]) (by intro v hv; obtain ⟨y, -, rfl⟩ := List.mem_map.1 hv; rfl) hpos (by omega) fun w' hb hk hz => ?_
  have hcells : (raws.map vV).flatMap (fun v => v.cells.toList) = raws.flatMap encV := by rw [List.flatMap_map]; rfl
  rw [hcells] at hb
  have := slT_blk hb
  rw [hn] at this
  exact k _ _ this hk
theorem newFields {fs : List GFd} {n : Nat} {parts : Array (Nat × Value)} {w : World} {K : Value → World → Prop} (hn : fs.length = n) (hpos : 0 < n) (hs : n ≤ 1000) (hp : parts.toList = ((fs.map vF).zipIdx).map fun p => (p.2, p.1))
    (k : ∀ u w', SlT w' encF u fs → Kept [] w w' → K u w') : xE Tryd.prog (sBuildSlice 24 n parts) w K := by
  refine xE_buildSlice EL_24 (fs.map vF) hp (by simp [hn]) (by intro v hv; obtain ⟨y, -, rfl⟩ := List.mem_map.1 hv; rfl) hpos (by omega) fun w' hb hk hz => ?_
  have hcells : (fs.map vF).flatMap (fun v => v.cells.toList) = fs.flatMap encF := by rw [List.flatMap_map]; rfl
  rw [hcells] at hb
  have := slT_blk hb
  rw [hn] at this
  exact k _ _ this hk
theorem newBytes {l : List UInt8} {n : Nat} {parts : Array (Nat × Value)} {w : World} {K : Value → World → Prop} (hn : l.length = n) (hpos : 0 < n) (hs : n ≤ 1000) (hp : parts.toList = ((l.map fun b => Value.int .u8 b.toNat).zipIdx).map fun p => (p.2, p.1))
    (k : ∀ u w' F, Own w' 5 1 u n (l.flatMap encB) F → (∀ g ∈ F, w.heap.size ≤ g) → Kept [] w w' → K u w') : xE Tryd.prog (sBuildSlice 25 n parts) w K := by
  refine xE_buildSlice EL_25 (l.map fun b => Value.int .u8 b.toNat) hp (by simp [hn]) (by intro v hv; obtain ⟨y, -, rfl⟩ := List.mem_map.1 hv; rfl) hpos (by omega) fun w' hb hk hz => ?_
  have hcells : (l.map fun b => Value.int .u8 b.toNat).flatMap (fun v => v.cells.toList) = l.flatMap encB := by rw [List.flatMap_map]; rfl
  rw [hcells] at hb
  exact k _ _ [w.heap.size] (own_of_blk hb (by rw [flat_len encB_len, hn]) (by unfold maxLen; omega)) (by simp) hk
/-- Kind of an error that stands there. -/
theorem kindE_ok {e : Er} {k : Int} (hp : Er.plain e) (hk : e.kind = k) {w : World} {K : Value → World → Prop} (hg : Glob w) (c : ∀ w', Kept [] w w' → K (.int .i64 k) w') : xE Tryd.prog (sCall 20 #[erV e]) w K :=
  xE_call CF_20 (kind_ok hp hg) (fun u w' ⟨h1, h2⟩ => by subst h1; rw [hk]; exact c w' h2)

theorem gramRuns_ok {w : World} (hgl : Glob w) : Gives Tryd.prog 3 #[] w fun u w' => u = .bool true ∧ Kept [] w w' := by
  refine C_stavelaw2_GramRuns ?_
  unfold S_stavelaw2_GramRuns
  refine (xP_build (cells := (encF ⟨1, 2, 0, 999, 0⟩).toArray) (by kernel_rfl)).2 ?_
  refine (xP_build (cells := (encF ⟨2, 0, 1, 3, 0⟩).toArray) (by kernel_rfl)).2 ?_
  refine (xP_build (cells := (encF ⟨3, 0, 0, 2, 1⟩).toArray) (by kernel_rfl)).2 ?_
  refine newFields (fs := g3) rfl (by omega) (by omega) rfl fun fv w1 hf1 hk1 => ?_
  refine (xP_build buildN).2 ?_
  refine (xP_build buildS).2 ?_
  refine xE_buildSlice EL_30 [.string sC] rfl rfl (by simp [Value.cells]) (by omega) (by omega) fun w2 hb2 hk2 hz2 => ?_
  have hlc : SlT w2 encS (.slice (some ⟨w1.heap.size, 0, none⟩) 1 1) [sC] := slT_blk (l := [sC]) hb2
  refine (xP_build buildLV).2 ?_
  refine newVals (raws := [⟨258, strEmpty, .slice none 0 0⟩, ⟨0, sAB, .slice none 0 0⟩, ⟨0, strEmpty, .slice (some ⟨w1.heap.size, 0, none⟩) 1 1⟩]) rfl (by omega) (by omega) rfl fun vv w3 hv3 hk3 => ?_
  have hk03 := (hk1.then hk2 (by simp)).then hk3 (by simp)
  have hf3 := (hf1.kept0 hk2).kept0 hk3
  refine xE_call CF_16 (put_ok (vs := v3) hf3 small3 (by simp [g3]) hv3 rfl ?_ (by simp [v3]) (by intro y hy; simp [v3] at hy; rcases hy with rfl | rfl | rfl <;> simp)) ?_
  · intro i x y hx hy
    rcases i with _ | _ | _ | i
    · simp [v3] at hx hy; subst hx; subst hy; exact ⟨rfl, rfl, SlT.nil_ _ _⟩
    · simp [v3] at hx hy; subst hx; subst hy; exact ⟨rfl, rfl, SlT.nil_ _ _⟩
    · simp [v3] at hx hy; subst hx; subst hy; exact ⟨rfl, rfl, hlc.kept0 hk3⟩
    · simp at hx
  intro r w4 hp
  unfold PutPost at hp
  rw [put3] at hp
  obtain ⟨u, rfl, hfr⟩ := hp
  simp only [xP_ex0, xP_ex1]
  have hk04 := hk03.then hfr.keptI (by simp)
  have hu4 := hfr.slT
  have hf4 := hf3.kept0 hfr.keptI
  refine xJoin_of (fun vs w' => vs = [.bool false] ∧ Kept [] w4 w') ?_ ?_
  · refine (xR_neqN IFE).2 ?_
    simp only [xIf_false]
    refine newBytes (l := b10) rfl (by omega) (by omega) rfl fun bv w5 F5 ho5 hF5 hk5 => ?_
    refine xE_call CF_17 (sameB_ok (hu4.kept0 hk5) (ownBytes (l := b10) ho5) (by simp [b10])) ?_
    rintro _ w6 ⟨rfl, hk6⟩
    simp only [decide_true, xP_not, Bool.not_true]
    exact ⟨trivial, hk5.then hk6 (by simp)⟩
  rintro _ _ w5 ⟨rfl, hk45⟩
  simp only [List.getD_cons_zero, xIf_false]
  have hk05 := hk04.then hk45 (by simp)
  have hu5 := hu4.kept0 hk45
  have hf5 := hf4.kept0 hk45
  obtain ⟨ua, uc, rfl, huc, hur⟩ := hu5
  have hu5 : SlT w5 encB (.slice ua b10.length uc) b10 := ⟨ua, uc, rfl, huc, hur⟩
  have hbl : b10.length = 10 := rfl
  refine (xP_upto SL_25 SZ_5 (by omega) (by omega)).2 ?_
  have hcut : SlT w5 encB (.slice (if uc = 0 then ua else ua.map (·.add (0 * 1))) 9 uc) (b10.take 9) := SlT.upto encB_len hu5 (by omega)
  refine xE_call CF_18 (get_ok hf5 small3 (by simp [g3]) hcut (by simp [b10])) ?_
  rintro r6 w6 ⟨hk6, hg6⟩
  rw [get3a] at hg6
  subst hg6
  simp only [xP_ex0, xP_ex1]
  refine newBytes (l := [232, 3]) rfl (by omega) (by omega) rfl fun cv w7 F7 ho7 hF7 hk7 => ?_
  have hk57 := hk6.then hk7 (by simp)
  refine (xP_from SL_25 SZ_5 (by omega) (by omega)).2 ?_
  have hfrom : SlT w7 encB (.slice (if uc = 2 then ua else ua.map (·.add (2 * 1))) (b10.length - 2) (uc - 2)) (b10.drop 2) := SlT.sub (i := 2) (j := b10.length) encB_len (hu5.kept0 hk57) (by omega) (Nat.le_refl _)
  refine xE_appendSrc EL_25 ho7 (src_slT hfrom) (by rw [List.length_drop]; omega) (by unfold maxLen; rw [List.length_drop]; omega) fun dv w8 F8 ho8 hk8 hF8 _ => ?_
  have hz57 := hk57.size
  have hk58 : Kept [] w5 w8 := hk57.then hk8 (fun g hg => .inr (by have := hF7 g hg; have := hk6.size; omega))
  have hd8 : SlT w8 encB dv ([232, 3] ++ b10.drop 2) := by
    refine ownBytes (F := F8) ?_
    have := ho8
    rw [← List.flatMap_append] at this
    exact this
  refine xE_call CF_18 (get_ok (hf5.kept0 hk58) small3 (by simp [g3]) hd8 (by simp [b10])) ?_
  rintro r9 w9 ⟨hk9, hg9⟩
  rw [get3b] at hg9
  subst hg9
  simp only [xP_ex0, xP_ex1]
  have hk09 := (hk05.then hk58 (by simp)).then hk9 (by simp)
  refine xE_call CF_19 (where_ok (e := .flt opGet 6 (.no 3)) trivial (by simp [Er.faults]) (hgl.kept0 hk09)) ?_
  rintro _ w10 ⟨rfl, hk10⟩
  simp only [whereV, Er.where?, xP_t0, xP_t1, xP_t2]
  have hk010 := hk09.then hk10 (by simp)
  refine xE_call CF_19 (where_ok (e := .flt opGet 0 (.no 2)) trivial (by simp [Er.faults]) (hgl.kept0 hk010)) ?_
  rintro _ w11 ⟨rfl, hk11⟩
  simp only [whereV, Er.where?, xP_t0, xP_t1, xP_t2]
  have hk011 := hk010.then hk11 (by simp)
  refine kindE_ok (e := .flt opGet 6 (.no 3)) (k := 3) trivial rfl (hgl.kept0 hk011) fun w12 hk12 => ?_
  simp only [xR_eql, decide_true, xIf_true]
  have hk012 := hk011.then hk12 (by simp)
  refine kindE_ok (e := .flt opGet 0 (.no 2)) (k := 2) trivial rfl (hgl.kept0 hk012) fun w13 hk13 => ?_
  simp only [xR_eql, decide_true, xIf_true]
  have hk013 := hk012.then hk13 (by simp)
  have hk513 : Kept [] w5 w13 := ((((hk58.then hk9 (by simp)).then hk10 (by simp)).then hk11 (by simp)).then hk12 (by simp)).then hk13 (by simp)
  refine xE_call CF_21 (least_ok (hf5.kept0 hk513) small3 (by simp [g3])) ?_
  rintro _ w14 ⟨rfl, hk14⟩
  rw [least3]
  simp only [xR_eql, decide_true]
  exact ⟨rfl, hk013.then hk14 (by simp)⟩
end Go.Proofs.YtclojjiiiejfpaaDoor
