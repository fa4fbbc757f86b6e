import Derived.Test.YtclojjiiiejfpaaDoorXB
import Derived.Test.YtclojjiiiejfpaaDoorRows
namespace Go.Proofs.YtclojjiiiejfpaaDoor
set_option linter.unusedSimpArgs false
set_option linter.unusedVariables false
open Go.X
set_option maxRecDepth 100000

/-- stave/stavelaw2.GramRuns -/
def A_stavelaw2_GramRuns : Ann := (.seq .nil (.seq .nil (.seq .nil (.seq (.join [35] .nil .nil) .nil))))
def S_stavelaw2_GramRuns (w : World) (R : Ending → World → Prop) : Prop :=
  xP Tryd.prog (sBuild 23 #[(0, (.int .i64 1)), (1, (.int .i64 2)), (3, (.int .i64 999))]) fun v14_1 =>
  xP Tryd.prog (sBuild 23 #[(0, (.int .i64 2)), (2, (.int .i64 1)), (3, (.int .i64 3))]) fun v15_2 =>
  xP Tryd.prog (sBuild 23 #[(0, (.int .i64 3)), (3, (.int .i64 2)), (4, (.int .i64 1))]) fun v16_3 =>
  xE Tryd.prog (sBuildSlice 24 3 #[(0, v14_1), (1, v15_2), (2, v16_3)]) w fun v17_4 w5 =>
  xP Tryd.prog (sBuild 32 #[(0, (.int .i64 258))]) fun v20_6 =>
  xP Tryd.prog (sBuild 32 #[(1, (.string (ByteArray.mk #[97, 98])))]) fun v21_7 =>
  xE Tryd.prog (sBuildSlice 30 1 #[(0, (.string (ByteArray.mk #[99])))]) w5 fun v22_8 w9 =>
  xP Tryd.prog (sBuild 32 #[(2, v22_8)]) fun v23_10 =>
  xE Tryd.prog (sBuildSlice 33 3 #[(0, v20_6), (1, v21_7), (2, v23_10)]) w9 fun v24_11 w12 =>
  xE Tryd.prog (sCall 16 #[v17_4, v24_11]) w12 fun v25_13 w14 =>
  xP Tryd.prog (sExtract v25_13 0) fun v26_15 =>
  xP Tryd.prog (sExtract v25_13 1) fun v27_16 =>
  xJoin (fun J17 =>
    xR Tryd.prog (sEq .neq 27 true v27_16 (.nilIface)) w14 fun v29_18 =>
    xIf v29_18 (
    J17 [(.bool true)] w14) (
    xE Tryd.prog (sBuildSlice 25 10 #[(0, (.int .u8 2)), (1, (.int .u8 1)), (2, (.int .u8 2)), (3, (.int .u8 0)), (4, (.int .u8 97)), (5, (.int .u8 98)), (6, (.int .u8 1)), (7, (.int .u8 1)), (8, (.int .u8 0)), (9, (.int .u8 99))]) w14 fun v32_19 w20 =>
    xE Tryd.prog (sCall 17 #[v26_15, v32_19]) w20 fun v33_21 w22 =>
    xP Tryd.prog (sUn .not v33_21) fun v34_23 =>
    J17 [v34_23] w22)) fun vs24 _ w26 =>
  xIf (vs24.getD 0 undef) (
    R (.returned (.bool false)) w26) (
    xP Tryd.prog (sSlice 25 v26_15 none (some (.int .i64 9)) none) fun v39_27 =>
  xE Tryd.prog (sCall 18 #[v17_4, v39_27]) w26 fun v40_28 w29 =>
  xP Tryd.prog (sExtract v40_28 0) fun _ =>
  xP Tryd.prog (sExtract v40_28 1) fun v42_31 =>
  xE Tryd.prog (sBuildSlice 25 2 #[(0, (.int .u8 232)), (1, (.int .u8 3))]) w29 fun v45_32 w33 =>
  xP Tryd.prog (sSlice 25 v26_15 (some (.int .i64 2)) none none) fun v47_34 =>
  xE Tryd.prog (sB .append #[25, 25] #[v45_32, v47_34]) w33 fun v48_35 w36 =>
  xE Tryd.prog (sCall 18 #[v17_4, v48_35]) w36 fun v49_37 w38 =>
  xP Tryd.prog (sExtract v49_37 0) fun _ =>
  xP Tryd.prog (sExtract v49_37 1) fun v51_40 =>
  xE Tryd.prog (sCall 19 #[v42_31]) w38 fun v54_41 w42 =>
  xP Tryd.prog (sExtract v54_41 0) fun _ =>
  xP Tryd.prog (sExtract v54_41 1) fun v56_44 =>
  xP Tryd.prog (sExtract v54_41 2) fun _ =>
  xE Tryd.prog (sCall 19 #[v51_40]) w42 fun v60_46 w47 =>
  xP Tryd.prog (sExtract v60_46 0) fun _ =>
  xP Tryd.prog (sExtract v60_46 1) fun v62_49 =>
  xP Tryd.prog (sExtract v60_46 2) fun _ =>
  xE Tryd.prog (sCall 20 #[v42_31]) w47 fun v65_51 w52 =>
  xR Tryd.prog (sEq .eql 39 true v65_51 (.int .i64 3)) w52 fun v66_53 =>
  xIf v66_53 (
  xR Tryd.prog (sEq .eql 3 true v56_44 (.int .i64 6)) w52 fun v69_54 =>
  xIf v69_54 (
  xE Tryd.prog (sCall 20 #[v51_40]) w52 fun v73_55 w56 =>
  xR Tryd.prog (sEq .eql 39 true v73_55 (.int .i64 2)) w56 fun v74_57 =>
  xIf v74_57 (
  xR Tryd.prog (sEq .eql 3 true v62_49 (.int .i64 0)) w56 fun v78_58 =>
  xIf v78_58 (
  xE Tryd.prog (sCall 21 #[v17_4]) w56 fun v82_59 w60 =>
  xR Tryd.prog (sEq .eql 3 true v82_59 (.int .i64 6)) w60 fun v83_61 =>
  R (.returned v83_61) w60) (
  R (.returned (.bool false)) w56)) (
  R (.returned (.bool false)) w56)) (
  R (.returned (.bool false)) w52)) (
  R (.returned (.bool false)) w52))
theorem C_stavelaw2_GramRuns {w : World} {R : Ending → World → Prop} (h : S_stavelaw2_GramRuns  w R) : Calls Tryd.prog 3 #[] w R :=
  funcVC_sound (an := A_stavelaw2_GramRuns) (args := []) (k := 0) Tryd.func3 (by kernel_rfl) rfl
    (Eq.mp (show S_stavelaw2_GramRuns  w R = funcVC Tryd.prog Tryd.f3 A_stavelaw2_GramRuns [] w R by kernel_rfl) h)

/-- stave/stavelaw2.GramTells -/
def A_stavelaw2_GramTells : Ann := (.seq .nil (.seq .nil (.seq (.seq .nil (.one (.loop [25] (.seq .nil (.seq .nil (.seq (.one (.seq .nil (.seq (.draw (.pre [0, 2, 1, 3, 4] .nil) [0, 1, 0, 7, 15]) .nil))) .nil)))))) .nil)))
def S_stavelaw2_GramTells (a0 : Value) (a1 : Value) (w : World) (R : Ending → World → Prop) : Prop :=
  xE Tryd.prog (sCall 22 #[a0, a1]) w fun v20_1 w2 =>
  xP Tryd.prog (sExtract v20_1 0) fun v21_3 =>
  xP Tryd.prog (sExtract v20_1 1) fun v22_4 =>
  xP Tryd.prog (sB .len #[24] #[v21_3]) fun v24_5 =>
  xLoop [(.int .i64 0)] w2 fun J6 vs7 _ w9 =>
    xP Tryd.prog (sBin .lss 3 (vs7.getD 0 undef) v24_5) fun v26_10 =>
    xIf v26_10 (
      xP Tryd.prog (sIA 24 v21_3 (vs7.getD 0 undef)) fun v27_11 =>
    xR Tryd.prog (sLoad 23 v27_11) w9 fun v28_12 =>
    xE Tryd.prog (sAlloc 23) w9 fun v8_13 w14 =>
    xE Tryd.prog (sStore 23 v8_13 v28_12) w14 fun _ w15 =>
    xR Tryd.prog (sLoad 23 v8_13) (w15.drew) fun v29_16 =>
    xR Tryd.prog (sLoad 23 v8_13) (w15.drew) fun v31_17 =>
    xE Tryd.prog (sCall 23 #[v29_16]) (w15.drew) fun v30_18 w19 =>
    xStill Tryd.prog (sLoad 23 v8_13) v31_17 w19 <|
    xE Tryd.prog (sCall 24 #[v31_17]) w19 fun v32_20 w21 =>
    xR Tryd.prog (sEq .neq 4 false v30_18 v32_20) w21 fun v33_22 =>
    xIf v33_22 (
      R (.returned (.bool false)) w21) (
      xP Tryd.prog (sBin .add 3 (vs7.getD 0 undef) (.int .i64 1)) fun v34_23 =>
    J6 [v34_23] w21)) (
      xE Tryd.prog (sCall 16 #[v21_3, v22_4]) w9 fun v38_24 w25 =>
  xP Tryd.prog (sExtract v38_24 0) fun v39_26 =>
  xP Tryd.prog (sExtract v38_24 1) fun v40_27 =>
  xE Tryd.prog (sCall 25 #[v21_3, v22_4]) w25 fun v44_28 w29 =>
  xP Tryd.prog (sExtract v44_28 0) fun v45_30 =>
  xP Tryd.prog (sExtract v44_28 1) fun v46_31 =>
  xP Tryd.prog (sExtract v44_28 2) fun v47_32 =>
  xE Tryd.prog (sCall 19 #[v40_27]) w29 fun v50_33 w34 =>
  xP Tryd.prog (sExtract v50_33 0) fun v51_35 =>
  xP Tryd.prog (sExtract v50_33 1) fun v52_36 =>
  xP Tryd.prog (sExtract v50_33 2) fun v53_37 =>
  xE Tryd.prog (sCall 17 #[v39_26, v45_30]) w34 fun v56_38 w39 =>
  xIf v56_38 (
  xE Tryd.prog (sCall 20 #[v40_27]) w39 fun v59_40 w41 =>
  xR Tryd.prog (sEq .eql 3 false v59_40 v46_31) w41 fun v61_42 =>
  xIf v61_42 (
  xR Tryd.prog (sEq .neq 3 true v46_31 (.int .i64 0)) w41 fun v66_43 =>
  xR Tryd.prog (sEq .eql 4 false v53_37 v66_43) w41 fun v67_44 =>
  xIf v67_44 (
  xP Tryd.prog (sUn .not v53_37) fun v71_45 =>
  xIf v71_45 (
  xE Tryd.prog (sCall 3 #[]) w41 fun v83_46 w47 =>
  R (.returned v83_46) w47) (
  xR Tryd.prog (sEq .eql 9 true v51_35 (.string (ByteArray.mk #[103, 114, 97, 109, 46, 80, 117, 116]))) w41 fun v74_48 =>
  xIf v74_48 (
  xR Tryd.prog (sEq .eql 3 false v52_36 v47_32) w41 fun v78_49 =>
  xIf v78_49 (
  xE Tryd.prog (sCall 3 #[]) w41 fun v83_50 w51 =>
  R (.returned v83_50) w51) (
  R (.returned (.bool false)) w41)) (
  R (.returned (.bool false)) w41))) (
  R (.returned (.bool false)) w41)) (
  R (.returned (.bool false)) w41)) (
  R (.returned (.bool false)) w39))
theorem C_stavelaw2_GramTells {a0 : Value} {a1 : Value} {w : World} {R : Ending → World → Prop} (h : S_stavelaw2_GramTells a0 a1 w R) : Calls Tryd.prog 4 #[a0, a1] w R :=
  funcVC_sound (an := A_stavelaw2_GramTells) (args := [a0, a1]) (k := 2) Tryd.func4 (by kernel_rfl) rfl
    (Eq.mp (show S_stavelaw2_GramTells a0 a1 w R = funcVC Tryd.prog Tryd.f4 A_stavelaw2_GramTells [a0, a1] w R by kernel_rfl) h)

/-- stave/stavelaw2.GramReads -/
def A_stavelaw2_GramReads : Ann := (.seq .nil (.seq .nil (.seq .nil (.join [13] (.seq .nil (.join [52] .nil .nil)) .nil))))
def S_stavelaw2_GramReads (a0 : Value) (a1 : Value) (a2 : Value) (a3 : Value) (a4 : Value) (w : World) (R : Ending → World → Prop) : Prop :=
  xE Tryd.prog (sCall 22 #[a0, a1]) w fun v29_1 w2 =>
  xP Tryd.prog (sExtract v29_1 0) fun v30_3 =>
  xP Tryd.prog (sExtract v29_1 1) fun v31_4 =>
  xE Tryd.prog (sBuildSlice 25 0 #[]) w2 fun v32_5 w6 =>
  xP Tryd.prog (sB .len #[25] #[a2]) fun v35_7 =>
  xP Tryd.prog (sB .min #[3, 3] #[v35_7, (.int .i64 80)]) fun v36_8 =>
  xP Tryd.prog (sSlice 25 a2 none (some v36_8) none) fun v37_9 =>
  xE Tryd.prog (sB .append #[25, 25] #[v32_5, v37_9]) w6 fun v38_10 w11 =>
  xJoin (fun J12 =>
    xE Tryd.prog (sCall 25 #[v30_3, v31_4]) w11 fun v42_13 w14 =>
    xP Tryd.prog (sExtract v42_13 0) fun v43_15 =>
    xP Tryd.prog (sExtract v42_13 1) fun v44_16 =>
    xP Tryd.prog (sExtract v42_13 2) fun _ =>
    xJoin (fun J18 =>
      xR Tryd.prog (sEq .eql 3 true v44_16 (.int .i64 0)) w14 fun v47_19 =>
      xIf v47_19 (
      xP Tryd.prog (sB .len #[25] #[v43_15]) fun v50_20 =>
      xP Tryd.prog (sBin .gtr 3 v50_20 (.int .i64 0)) fun v51_21 =>
      J18 [v51_21] w14) (
      J18 [(.bool false)] w14)) fun vs22 _ w24 =>
    xIf (vs22.getD 0 undef) (
      xP Tryd.prog (sB .len #[25] #[v43_15]) fun v57_25 =>
      xP Tryd.prog (sBin .sub 3 v57_25 (.int .i64 1)) fun v58_26 =>
      xE Tryd.prog (sCall 26 #[a3, (.int .i64 0), v58_26]) w24 fun v59_27 w28 =>
      xP Tryd.prog (sIA 25 v43_15 v59_27) fun v60_29 =>
      xR Tryd.prog (sLoad 5 v60_29) w28 fun v61_30 =>
      xP Tryd.prog (sBin .xor 5 v61_30 a4) fun v63_31 =>
      xP Tryd.prog (sIA 25 v43_15 v59_27) fun v64_32 =>
      xE Tryd.prog (sStore 5 v64_32 v63_31) w28 fun _ w33 =>
      J12 [v43_15] w33) (
      J12 [v38_10] w24)) fun vs34 _ w36 =>
  xE Tryd.prog (sCall 27 #[(vs34.getD 0 undef), (.int .u8 7)]) w36 fun v66_37 w38 =>
  xP Tryd.prog (sB .len #[25] #[(vs34.getD 0 undef)]) fun v71_39 =>
  xP Tryd.prog (sSlice 25 v66_37 none (some v71_39) none) fun v72_40 =>
  xE Tryd.prog (sCall 18 #[v30_3, v72_40]) w38 fun v73_41 w42 =>
  xP Tryd.prog (sExtract v73_41 0) fun v74_43 =>
  xP Tryd.prog (sExtract v73_41 1) fun v75_44 =>
  xE Tryd.prog (sCall 28 #[v30_3, (vs34.getD 0 undef)]) w42 fun v79_45 w46 =>
  xP Tryd.prog (sExtract v79_45 0) fun v80_47 =>
  xP Tryd.prog (sExtract v79_45 1) fun v81_48 =>
  xP Tryd.prog (sExtract v79_45 2) fun v82_49 =>
  xE Tryd.prog (sCall 19 #[v75_44]) w46 fun v85_50 w51 =>
  xP Tryd.prog (sExtract v85_50 0) fun v86_52 =>
  xP Tryd.prog (sExtract v85_50 1) fun v87_53 =>
  xP Tryd.prog (sExtract v85_50 2) fun v88_54 =>
  xE Tryd.prog (sCall 29 #[v74_43, v80_47]) w51 fun v91_55 w56 =>
  xIf v91_55 (
  xE Tryd.prog (sCall 20 #[v75_44]) w56 fun v94_57 w58 =>
  xR Tryd.prog (sEq .eql 3 false v94_57 v81_48) w58 fun v96_59 =>
  xIf v96_59 (
  xR Tryd.prog (sEq .neq 3 true v81_48 (.int .i64 0)) w58 fun v101_60 =>
  xR Tryd.prog (sEq .eql 4 false v88_54 v101_60) w58 fun v102_61 =>
  xIf v102_61 (
  xP Tryd.prog (sUn .not v88_54) fun v106_62 =>
  xIf v106_62 (
  xE Tryd.prog (sCall 30 #[v66_37, (vs34.getD 0 undef), (.int .u8 7)]) w58 fun v120_63 w64 =>
  xIf v120_63 (
  xE Tryd.prog (sCall 3 #[]) w64 fun v123_65 w66 =>
  R (.returned v123_65) w66) (
  R (.returned (.bool false)) w64)) (
  xR Tryd.prog (sEq .eql 9 true v86_52 (.string (ByteArray.mk #[103, 114, 97, 109, 46, 71, 101, 116]))) w58 fun v109_67 =>
  xIf v109_67 (
  xR Tryd.prog (sEq .eql 3 false v87_53 v82_49) w58 fun v113_68 =>
  xIf v113_68 (
  xE Tryd.prog (sCall 30 #[v66_37, (vs34.getD 0 undef), (.int .u8 7)]) w58 fun v120_69 w70 =>
  xIf v120_69 (
  xE Tryd.prog (sCall 3 #[]) w70 fun v123_71 w72 =>
  R (.returned v123_71) w72) (
  R (.returned (.bool false)) w70)) (
  R (.returned (.bool false)) w58)) (
  R (.returned (.bool false)) w58))) (
  R (.returned (.bool false)) w58)) (
  R (.returned (.bool false)) w58)) (
  R (.returned (.bool false)) w56)
theorem C_stavelaw2_GramReads {a0 : Value} {a1 : Value} {a2 : Value} {a3 : Value} {a4 : Value} {w : World} {R : Ending → World → Prop} (h : S_stavelaw2_GramReads a0 a1 a2 a3 a4 w R) : Calls Tryd.prog 5 #[a0, a1, a2, a3, a4] w R :=
  funcVC_sound (an := A_stavelaw2_GramReads) (args := [a0, a1, a2, a3, a4]) (k := 5) Tryd.func5 (by kernel_rfl) rfl
    (Eq.mp (show S_stavelaw2_GramReads a0 a1 a2 a3 a4 w R = funcVC Tryd.prog Tryd.f5 A_stavelaw2_GramReads [a0, a1, a2, a3, a4] w R by kernel_rfl) h)

/-- stave/stavelaw2.GramBack -/
def A_stavelaw2_GramBack : Ann := (.seq .nil (.seq .nil (.seq .nil (.seq .nil (.seq .nil (.seq (.join [65] .nil .nil) (.seq .nil (.join [] .nil .nil))))))))
def S_stavelaw2_GramBack (a0 : Value) (a1 : Value) (a2 : Value) (a3 : Value) (w : World) (R : Ending → World → Prop) : Prop :=
  xE Tryd.prog (sCall 22 #[a0, a1]) w fun v23_1 w2 =>
  xP Tryd.prog (sExtract v23_1 0) fun v24_3 =>
  xP Tryd.prog (sExtract v23_1 1) fun v25_4 =>
  xE Tryd.prog (sCall 16 #[v24_3, v25_4]) w2 fun v29_5 w6 =>
  xP Tryd.prog (sExtract v29_5 0) fun v30_7 =>
  xP Tryd.prog (sExtract v29_5 1) fun v31_8 =>
  xR Tryd.prog (sEq .neq 27 true v31_8 (.nilIface)) w6 fun v33_9 =>
  xIf v33_9 (
    xP Tryd.prog (sB .len #[25] #[v30_7]) fun v35_10 =>
    xR Tryd.prog (sEq .eql 3 true v35_10 (.int .i64 0)) w6 fun v36_11 =>
    xIf v36_11 (
    xE Tryd.prog (sCall 3 #[]) w6 fun v38_12 w13 =>
    R (.returned v38_12) w13) (
    R (.returned (.bool false)) w6)) (
    xE Tryd.prog (sCall 18 #[v24_3, v30_7]) w6 fun v43_14 w15 =>
  xP Tryd.prog (sExtract v43_14 0) fun v44_16 =>
  xP Tryd.prog (sExtract v43_14 1) fun v45_17 =>
  xJoin (fun J18 =>
    xR Tryd.prog (sEq .neq 27 true v45_17 (.nilIface)) w15 fun v47_19 =>
    xIf v47_19 (
    J18 [(.bool true)] w15) (
    xE Tryd.prog (sCall 29 #[v44_16, v25_4]) w15 fun v51_20 w21 =>
    xP Tryd.prog (sUn .not v51_20) fun v52_22 =>
    xIf v52_22 (
    J18 [(.bool true)] w21) (
    xP Tryd.prog (sB .len #[25] #[v30_7]) fun v56_23 =>
    xE Tryd.prog (sCall 21 #[v24_3]) w21 fun v58_24 w25 =>
    xP Tryd.prog (sBin .lss 3 v56_23 v58_24) fun v59_26 =>
    xIf v59_26 (
    J18 [(.bool true)] w25) (
    xE Tryd.prog (sCall 21 #[v24_3]) w25 fun v63_27 w28 =>
    xP Tryd.prog (sBin .lss 3 v63_27 (.int .i64 0)) fun v64_29 =>
    J18 [v64_29] w28)))) fun vs30 _ w32 =>
  xIf (vs30.getD 0 undef) (
    R (.returned (.bool false)) w32) (
    xE Tryd.prog (sBuildSlice 25 0 #[]) w32 fun v68_33 w34 =>
  xE Tryd.prog (sB .append #[25, 25] #[v68_33, v30_7]) w34 fun v70_35 w36 =>
  xE Tryd.prog (sBuildSlice 25 1 #[(0, a3)]) w36 fun v72_37 w38 =>
  xE Tryd.prog (sB .append #[25, 25] #[v70_35, v72_37]) w38 fun v73_39 w40 =>
  xE Tryd.prog (sCall 18 #[v24_3, v73_39]) w40 fun v74_41 w42 =>
  xP Tryd.prog (sExtract v74_41 0) fun _ =>
  xP Tryd.prog (sExtract v74_41 1) fun v76_44 =>
  xJoin (fun J45 =>
    xP Tryd.prog (sB .len #[25] #[v30_7]) fun v79_46 =>
    xE Tryd.prog (sCall 26 #[a2, (.int .i64 0), v79_46]) w42 fun v80_47 w48 =>
    xP Tryd.prog (sB .len #[25] #[v30_7]) fun v83_49 =>
    xP Tryd.prog (sBin .lss 3 v80_47 v83_49) fun v84_50 =>
    xIf v84_50 (
      xP Tryd.prog (sSlice 25 v30_7 none (some v80_47) none) fun v89_51 =>
      xE Tryd.prog (sCall 18 #[v24_3, v89_51]) w48 fun v90_52 w53 =>
      xP Tryd.prog (sExtract v90_52 0) fun _ =>
      xP Tryd.prog (sExtract v90_52 1) fun v92_55 =>
      xE Tryd.prog (sCall 20 #[v92_55]) w53 fun v94_56 w57 =>
      xR Tryd.prog (sEq .neq 39 true v94_56 (.int .i64 3)) w57 fun v95_58 =>
      xIf v95_58 (
        R (.returned (.bool false)) w57) (
        J45 [] w57)) (
      J45 [] w48)) fun _ _ w61 =>
  xE Tryd.prog (sCall 20 #[v76_44]) w61 fun v97_62 w63 =>
  xR Tryd.prog (sEq .eql 39 true v97_62 (.int .i64 4)) w63 fun v98_64 =>
  xIf v98_64 (
  xE Tryd.prog (sCall 3 #[]) w63 fun v100_65 w66 =>
  R (.returned v100_65) w66) (
  R (.returned (.bool false)) w63)))
theorem C_stavelaw2_GramBack {a0 : Value} {a1 : Value} {a2 : Value} {a3 : Value} {w : World} {R : Ending → World → Prop} (h : S_stavelaw2_GramBack a0 a1 a2 a3 w R) : Calls Tryd.prog 6 #[a0, a1, a2, a3] w R :=
  funcVC_sound (an := A_stavelaw2_GramBack) (args := [a0, a1, a2, a3]) (k := 4) Tryd.func6 (by kernel_rfl) rfl
    (Eq.mp (show S_stavelaw2_GramBack a0 a1 a2 a3 w R = funcVC Tryd.prog Tryd.f6 A_stavelaw2_GramBack [a0, a1, a2, a3] w R by kernel_rfl) h)

/-- stave/stavelaw2.GramOnly -/
def A_stavelaw2_GramOnly : Ann := .nil
def S_stavelaw2_GramOnly (a0 : Value) (a1 : Value) (w : World) (R : Ending → World → Prop) : Prop :=
  xE Tryd.prog (sCall 22 #[a0, (.slice none 0 0)]) w fun v13_1 w2 =>
  xP Tryd.prog (sExtract v13_1 0) fun v14_3 =>
  xP Tryd.prog (sExtract v13_1 1) fun _ =>
  xP Tryd.prog (sB .len #[25] #[a1]) fun v18_5 =>
  xP Tryd.prog (sB .min #[3, 3] #[v18_5, (.int .i64 60)]) fun v19_6 =>
  xP Tryd.prog (sSlice 25 a1 none (some v19_6) none) fun v20_7 =>
  xE Tryd.prog (sCall 18 #[v14_3, v20_7]) w2 fun v24_8 w9 =>
  xP Tryd.prog (sExtract v24_8 0) fun v25_10 =>
  xP Tryd.prog (sExtract v24_8 1) fun v26_11 =>
  xR Tryd.prog (sEq .neq 27 true v26_11 (.nilIface)) w9 fun v28_12 =>
  xIf v28_12 (
    xP Tryd.prog (sB .len #[33] #[v25_10]) fun v30_13 =>
    xR Tryd.prog (sEq .eql 3 true v30_13 (.int .i64 0)) w9 fun v31_14 =>
    xIf v31_14 (
    xE Tryd.prog (sCall 3 #[]) w9 fun v33_15 w16 =>
    R (.returned v33_15) w16) (
    R (.returned (.bool false)) w9)) (
    xE Tryd.prog (sCall 16 #[v14_3, v25_10]) w9 fun v38_17 w18 =>
  xP Tryd.prog (sExtract v38_17 0) fun v39_19 =>
  xP Tryd.prog (sExtract v38_17 1) fun v40_20 =>
  xR Tryd.prog (sEq .eql 27 true v40_20 (.nilIface)) w18 fun v42_21 =>
  xIf v42_21 (
  xE Tryd.prog (sCall 17 #[v39_19, v20_7]) w18 fun v46_22 w23 =>
  xIf v46_22 (
  xP Tryd.prog (sB .len #[33] #[v25_10]) fun v50_24 =>
  xP Tryd.prog (sB .len #[24] #[v14_3]) fun v52_25 =>
  xR Tryd.prog (sEq .eql 3 false v50_24 v52_25) w23 fun v53_26 =>
  xIf v53_26 (
  xP Tryd.prog (sB .len #[25] #[v20_7]) fun v57_27 =>
  xE Tryd.prog (sCall 21 #[v14_3]) w23 fun v59_28 w29 =>
  xP Tryd.prog (sBin .geq 3 v57_27 v59_28) fun v60_30 =>
  xIf v60_30 (
  xE Tryd.prog (sCall 3 #[]) w29 fun v63_31 w32 =>
  R (.returned v63_31) w32) (
  R (.returned (.bool false)) w29)) (
  R (.returned (.bool false)) w23)) (
  R (.returned (.bool false)) w23)) (
  R (.returned (.bool false)) w18))
theorem C_stavelaw2_GramOnly {a0 : Value} {a1 : Value} {w : World} {R : Ending → World → Prop} (h : S_stavelaw2_GramOnly a0 a1 w R) : Calls Tryd.prog 7 #[a0, a1] w R :=
  funcVC_sound (an := A_stavelaw2_GramOnly) (args := [a0, a1]) (k := 2) Tryd.func7 (by kernel_rfl) rfl
    (Eq.mp (show S_stavelaw2_GramOnly a0 a1 w R = funcVC Tryd.prog Tryd.f7 A_stavelaw2_GramOnly [a0, a1] w R by kernel_rfl) h)

/-- stave/stavelaw2.GramEnds -/
def A_stavelaw2_GramEnds : Ann := (.seq .nil (.seq .nil (.seq .nil (.seq .nil (.seq .nil (.seq .nil (.seq (.seq .nil (.one (.loop [50] (.seq .nil (.seq .nil (.seq (.one (.seq .nil (.seq .nil (.join [17] .nil (.join [100] .nil .nil))))) .nil)))))) (.seq .nil (.join [] .nil .nil)))))))))
def S_stavelaw2_GramEnds (a0 : Value) (a1 : Value) (a2 : Value) (a3 : Value) (w : World) (R : Ending → World → Prop) : Prop :=
  xE Tryd.prog (sBuildSlice 58 4 #[(0, (.int .i64 1)), (1, (.int .i64 2)), (2, (.int .i64 4)), (3, (.int .i64 8))]) w fun v24_1 w2 =>
  xE Tryd.prog (sCall 26 #[a0, (.int .i64 0), (.int .i64 3)]) w2 fun v26_3 w4 =>
  xP Tryd.prog (sIA 58 v24_1 v26_3) fun v27_5 =>
  xR Tryd.prog (sLoad 3 v27_5) w4 fun v28_6 =>
  xE Tryd.prog (sCall 26 #[a1, (.int .i64 0), (.int .i64 100)]) w4 fun v30_7 w8 =>
  xE Tryd.prog (sCall 26 #[a2, (.int .i64 0), (.int .i64 100)]) w8 fun v33_9 w10 =>
  xP Tryd.prog (sBin .add 3 v30_7 v33_9) fun v34_11 =>
  xP Tryd.prog (sBuild 23 #[(0, (.int .i64 1)), (1, v28_6), (2, v30_7), (3, v34_11)]) fun v38_12 =>
  xE Tryd.prog (sAlloc 23) w10 fun v12_13 w14 =>
  xE Tryd.prog (sStore 23 v12_13 v38_12) w14 fun _ w15 =>
  xR Tryd.prog (sLoad 23 v12_13) w15 fun v39_16 =>
  xE Tryd.prog (sCall 23 #[v39_16]) w15 fun v40_17 w18 =>
  xP Tryd.prog (sUn .not v40_17) fun v41_19 =>
  xIf v41_19 (
    R (.returned (.bool false)) w18) (
    xP Tryd.prog (sBin .sub 3 v30_7 (.int .i64 1)) fun v43_20 =>
  xP Tryd.prog (sBin .add 3 v34_11 (.int .i64 1)) fun v47_21 =>
  xE Tryd.prog (sBuildSlice 58 4 #[(0, v43_20), (1, v30_7), (2, v34_11), (3, v47_21)]) w18 fun v48_22 w23 =>
  xP Tryd.prog (sB .len #[58] #[v48_22]) fun v49_24 =>
  xLoop [(.int .i64 0)] w23 fun J25 vs26 _ w28 =>
    xP Tryd.prog (sBin .lss 3 (vs26.getD 0 undef) v49_24) fun v51_29 =>
    xIf v51_29 (
      xP Tryd.prog (sIA 58 v48_22 (vs26.getD 0 undef)) fun v52_30 =>
    xR Tryd.prog (sLoad 3 v52_30) w28 fun v53_31 =>
    xR Tryd.prog (sLoad 23 v12_13) w28 fun v55_32 =>
    xE Tryd.prog (sBuildSlice 24 1 #[(0, v55_32)]) w28 fun v56_33 w34 =>
    xP Tryd.prog (sBuild 32 #[(0, v53_31)]) fun v58_35 =>
    xE Tryd.prog (sBuildSlice 33 1 #[(0, v58_35)]) w34 fun v59_36 w37 =>
    xE Tryd.prog (sCall 16 #[v56_33, v59_36]) w37 fun v60_38 w39 =>
    xP Tryd.prog (sExtract v60_38 0) fun v61_40 =>
    xP Tryd.prog (sExtract v60_38 1) fun v62_41 =>
    xJoin (fun J42 =>
      xP Tryd.prog (sBin .geq 3 v53_31 v30_7) fun v65_43 =>
      xIf v65_43 (
      xP Tryd.prog (sBin .leq 3 v53_31 v34_11) fun v69_44 =>
      J42 [v69_44] w39) (
      J42 [(.bool false)] w39)) fun vs45 _ w47 =>
    xJoin (fun J48 =>
      xR Tryd.prog (sEq .eql 27 true v62_41 (.nilIface)) w47 fun v72_49 =>
      xR Tryd.prog (sEq .neq 4 false v72_49 (vs45.getD 0 undef)) w47 fun v74_50 =>
      xIf v74_50 (
      J48 [(.bool true)] w47) (
      xIf (vs45.getD 0 undef) (
      xP Tryd.prog (sB .len #[25] #[v61_40]) fun v79_51 =>
      xR Tryd.prog (sEq .neq 3 false v79_51 v28_6) w47 fun v81_52 =>
      xIf v81_52 (
      J48 [(.bool true)] w47) (
      xP Tryd.prog (sIA 25 v61_40 (.int .i64 0)) fun v84_53 =>
      xR Tryd.prog (sLoad 5 v84_53) w47 fun v85_54 =>
      xP Tryd.prog (sConv 5 3 v85_54) fun v86_55 =>
      xR Tryd.prog (sEq .neq 3 false v86_55 v53_31) w47 fun v88_56 =>
      xIf v88_56 (
      J48 [(.bool true)] w47) (
      xP Tryd.prog (sUn .not (vs45.getD 0 undef)) fun v94_57 =>
      xIf v94_57 (
      xE Tryd.prog (sCall 20 #[v62_41]) w47 fun v97_58 w59 =>
      xR Tryd.prog (sEq .neq 39 true v97_58 (.int .i64 2)) w59 fun v98_60 =>
      J48 [v98_60] w59) (
      J48 [(.bool false)] w47)))) (
      xP Tryd.prog (sUn .not (vs45.getD 0 undef)) fun v94_61 =>
      xIf v94_61 (
      xE Tryd.prog (sCall 20 #[v62_41]) w47 fun v97_62 w63 =>
      xR Tryd.prog (sEq .neq 39 true v97_62 (.int .i64 2)) w63 fun v98_64 =>
      J48 [v98_64] w63) (
      J48 [(.bool false)] w47)))) fun vs65 _ w67 =>
    xIf (vs65.getD 0 undef) (
      R (.returned (.bool false)) w67) (
      xP Tryd.prog (sBin .add 3 (vs26.getD 0 undef) (.int .i64 1)) fun v101_68 =>
    J25 [v101_68] w67)) (
      xR Tryd.prog (sLoad 23 v12_13) w28 fun v102_69 =>
  xE Tryd.prog (sAlloc 23) w28 fun v18_70 w71 =>
  xE Tryd.prog (sStore 23 v18_70 v102_69) w71 fun _ w72 =>
  xJoin (fun J73 =>
    xE Tryd.prog (sCall 26 #[a3, (.int .i64 0), (.int .i64 4)]) w72 fun v104_74 w75 =>
    xR Tryd.prog (sEq .eql 3 true v104_74 (.int .i64 0)) w75 fun v106_76 =>
    xIf v106_76 (
      xP Tryd.prog (sFA 23 v18_70 1) fun v107_77 =>
      xE Tryd.prog (sStore 3 v107_77 (.int .i64 3)) w75 fun _ w78 =>
      J73 [] w78) (
      xR Tryd.prog (sEq .eql 3 true v104_74 (.int .i64 1)) w75 fun v109_79 =>
      xIf v109_79 (
        xP Tryd.prog (sBin .add 3 v34_11 (.int .i64 1)) fun v111_80 =>
        xP Tryd.prog (sFA 23 v18_70 2) fun v112_81 =>
        xE Tryd.prog (sStore 3 v112_81 v111_80) w75 fun _ w82 =>
        J73 [] w82) (
        xR Tryd.prog (sEq .eql 3 true v104_74 (.int .i64 2)) w75 fun v114_83 =>
        xIf v114_83 (
          xP Tryd.prog (sFA 23 v18_70 0) fun v115_84 =>
          xE Tryd.prog (sStore 3 v115_84 (.int .i64 0)) w75 fun _ w85 =>
          J73 [] w85) (
          xR Tryd.prog (sEq .eql 3 true v104_74 (.int .i64 3)) w75 fun v117_86 =>
          xIf v117_86 (
            xP Tryd.prog (sFA 23 v18_70 4) fun v118_87 =>
            xE Tryd.prog (sStore 3 v118_87 (.int .i64 1)) w75 fun _ w88 =>
            J73 [] w88) (
            xR Tryd.prog (sEq .eql 3 true v104_74 (.int .i64 4)) w75 fun v120_89 =>
            xIf v120_89 (
              xP Tryd.prog (sFA 23 v18_70 1) fun v121_90 =>
              xE Tryd.prog (sStore 3 v121_90 (.int .i64 1)) w75 fun _ w91 =>
              xP Tryd.prog (sFA 23 v18_70 3) fun v122_92 =>
              xE Tryd.prog (sStore 3 v122_92 (.int .i64 256)) w91 fun _ w93 =>
              J73 [] w93) (
              J73 [] w75)))))) fun _ _ w96 =>
  xR Tryd.prog (sLoad 23 v12_13) w96 fun v124_97 =>
  xR Tryd.prog (sLoad 23 v18_70) w96 fun v125_98 =>
  xE Tryd.prog (sBuildSlice 24 2 #[(0, v124_97), (1, v125_98)]) w96 fun v126_99 w100 =>
  xP Tryd.prog (sBuild 32 #[(0, v30_7)]) fun v128_101 =>
  xP Tryd.prog (sBuild 32 #[(0, v30_7)]) fun v130_102 =>
  xE Tryd.prog (sBuildSlice 33 2 #[(0, v128_101), (1, v130_102)]) w100 fun v131_103 w104 =>
  xE Tryd.prog (sCall 16 #[v126_99, v131_103]) w104 fun v132_105 w106 =>
  xP Tryd.prog (sExtract v132_105 0) fun _ =>
  xP Tryd.prog (sExtract v132_105 1) fun v134_108 =>
  xE Tryd.prog (sCall 19 #[v134_108]) w106 fun v137_109 w110 =>
  xP Tryd.prog (sExtract v137_109 0) fun _ =>
  xP Tryd.prog (sExtract v137_109 1) fun v139_112 =>
  xP Tryd.prog (sExtract v137_109 2) fun v140_113 =>
  xR Tryd.prog (sLoad 23 v18_70) w110 fun v141_114 =>
  xE Tryd.prog (sCall 23 #[v141_114]) w110 fun v142_115 w116 =>
  xP Tryd.prog (sUn .not v142_115) fun v143_117 =>
  xIf v143_117 (
  xE Tryd.prog (sCall 20 #[v134_108]) w116 fun v146_118 w119 =>
  xR Tryd.prog (sEq .eql 39 true v146_118 (.int .i64 1)) w119 fun v147_120 =>
  xIf v147_120 (
  xIf v140_113 (
  xR Tryd.prog (sEq .eql 3 true v139_112 (.int .i64 1)) w119 fun v154_121 =>
  xIf v154_121 (
  xE Tryd.prog (sCall 3 #[]) w119 fun v157_122 w123 =>
  R (.returned v157_122) w123) (
  R (.returned (.bool false)) w119)) (
  R (.returned (.bool false)) w119)) (
  R (.returned (.bool false)) w119)) (
  R (.returned (.bool false)) w116)))
theorem C_stavelaw2_GramEnds {a0 : Value} {a1 : Value} {a2 : Value} {a3 : Value} {w : World} {R : Ending → World → Prop} (h : S_stavelaw2_GramEnds a0 a1 a2 a3 w R) : Calls Tryd.prog 8 #[a0, a1, a2, a3] w R :=
  funcVC_sound (an := A_stavelaw2_GramEnds) (args := [a0, a1, a2, a3]) (k := 4) Tryd.func8 (by kernel_rfl) rfl
    (Eq.mp (show S_stavelaw2_GramEnds a0 a1 a2 a3 w R = funcVC Tryd.prog Tryd.f8 A_stavelaw2_GramEnds [a0, a1, a2, a3] w R by kernel_rfl) h)

/-- stave/stavelaw2.GramJoins -/
def A_stavelaw2_GramJoins : Ann := (.seq .nil (.seq .nil (.seq .nil (.seq .nil (.seq .nil (.seq .nil (.seq (.join [62] .nil .nil) .nil)))))))
def S_stavelaw2_GramJoins (a0 : Value) (a1 : Value) (a2 : Value) (a3 : Value) (w : World) (R : Ending → World → Prop) : Prop :=
  xE Tryd.prog (sCall 22 #[a0, a2]) w fun v22_1 w2 =>
  xP Tryd.prog (sExtract v22_1 0) fun v23_3 =>
  xP Tryd.prog (sExtract v22_1 1) fun v24_4 =>
  xE Tryd.prog (sCall 22 #[a1, a3]) w2 fun v28_5 w6 =>
  xP Tryd.prog (sExtract v28_5 0) fun v29_7 =>
  xP Tryd.prog (sExtract v28_5 1) fun v30_8 =>
  xE Tryd.prog (sCall 16 #[v23_3, v24_4]) w6 fun v34_9 w10 =>
  xP Tryd.prog (sExtract v34_9 0) fun v35_11 =>
  xP Tryd.prog (sExtract v34_9 1) fun v36_12 =>
  xE Tryd.prog (sCall 16 #[v29_7, v30_8]) w10 fun v40_13 w14 =>
  xP Tryd.prog (sExtract v40_13 0) fun v41_15 =>
  xP Tryd.prog (sExtract v40_13 1) fun v42_16 =>
  xE Tryd.prog (sBuildSlice 24 0 #[]) w14 fun v44_17 w18 =>
  xE Tryd.prog (sB .append #[24, 24] #[v44_17, v23_3]) w18 fun v46_19 w20 =>
  xE Tryd.prog (sB .append #[24, 24] #[v46_19, v29_7]) w20 fun v48_21 w22 =>
  xE Tryd.prog (sBuildSlice 33 0 #[]) w22 fun v49_23 w24 =>
  xE Tryd.prog (sB .append #[33, 33] #[v49_23, v24_4]) w24 fun v51_25 w26 =>
  xE Tryd.prog (sB .append #[33, 33] #[v51_25, v30_8]) w26 fun v53_27 w28 =>
  xE Tryd.prog (sCall 16 #[v48_21, v53_27]) w28 fun v54_29 w30 =>
  xP Tryd.prog (sExtract v54_29 0) fun v55_31 =>
  xP Tryd.prog (sExtract v54_29 1) fun v56_32 =>
  xJoin (fun J33 =>
    xR Tryd.prog (sEq .neq 27 true v36_12 (.nilIface)) w30 fun v58_34 =>
    xIf v58_34 (
    J33 [(.bool true)] w30) (
    xR Tryd.prog (sEq .neq 27 true v42_16 (.nilIface)) w30 fun v61_35 =>
    J33 [v61_35] w30)) fun vs36 _ w38 =>
  xIf (vs36.getD 0 undef) (
    xR Tryd.prog (sEq .neq 27 true v56_32 (.nilIface)) w38 fun v64_39 =>
    xIf v64_39 (
    xE Tryd.prog (sCall 3 #[]) w38 fun v73_40 w41 =>
    R (.returned v73_40) w41) (
    xP Tryd.prog (sB .len #[33] #[v24_4]) fun v67_42 =>
    xP Tryd.prog (sB .len #[24] #[v23_3]) fun v69_43 =>
    xR Tryd.prog (sEq .neq 3 false v67_42 v69_43) w38 fun v70_44 =>
    xIf v70_44 (
    xE Tryd.prog (sCall 3 #[]) w38 fun v73_45 w46 =>
    R (.returned v73_45) w46) (
    R (.returned (.bool false)) w38))) (
    xR Tryd.prog (sEq .eql 27 true v56_32 (.nilIface)) w38 fun v76_47 =>
  xIf v76_47 (
  xE Tryd.prog (sBuildSlice 25 0 #[]) w38 fun v79_48 w49 =>
  xE Tryd.prog (sB .append #[25, 25] #[v79_48, v35_11]) w49 fun v81_50 w51 =>
  xE Tryd.prog (sB .append #[25, 25] #[v81_50, v41_15]) w51 fun v83_52 w53 =>
  xE Tryd.prog (sCall 17 #[v55_31, v83_52]) w53 fun v84_54 w55 =>
  xIf v84_54 (
  xE Tryd.prog (sBuildSlice 24 0 #[]) w55 fun v87_56 w57 =>
  xE Tryd.prog (sB .append #[24, 24] #[v87_56, v23_3]) w57 fun v89_58 w59 =>
  xE Tryd.prog (sB .append #[24, 24] #[v89_58, v29_7]) w59 fun v91_60 w61 =>
  xE Tryd.prog (sCall 21 #[v91_60]) w61 fun v92_62 w63 =>
  xE Tryd.prog (sCall 21 #[v23_3]) w63 fun v94_64 w65 =>
  xE Tryd.prog (sCall 21 #[v29_7]) w65 fun v96_66 w67 =>
  xP Tryd.prog (sBin .add 3 v94_64 v96_66) fun v97_68 =>
  xR Tryd.prog (sEq .eql 3 false v92_62 v97_68) w67 fun v98_69 =>
  xIf v98_69 (
  xE Tryd.prog (sCall 3 #[]) w67 fun v101_70 w71 =>
  R (.returned v101_70) w71) (
  R (.returned (.bool false)) w67)) (
  R (.returned (.bool false)) w55)) (
  R (.returned (.bool false)) w38))
theorem C_stavelaw2_GramJoins {a0 : Value} {a1 : Value} {a2 : Value} {a3 : Value} {w : World} {R : Ending → World → Prop} (h : S_stavelaw2_GramJoins a0 a1 a2 a3 w R) : Calls Tryd.prog 9 #[a0, a1, a2, a3] w R :=
  funcVC_sound (an := A_stavelaw2_GramJoins) (args := [a0, a1, a2, a3]) (k := 4) Tryd.func9 (by kernel_rfl) rfl
    (Eq.mp (show S_stavelaw2_GramJoins a0 a1 a2 a3 w R = funcVC Tryd.prog Tryd.f9 A_stavelaw2_GramJoins [a0, a1, a2, a3] w R by kernel_rfl) h)

/-- stave/stavelaw2.GramTexts -/
def A_stavelaw2_GramTexts : Ann := (.seq .nil (.seq .nil (.seq .nil (.seq .nil (.seq .nil (.join [14, 15] (.draw (.pre [0, 2] (.alt 1 (.pre [3, 4, 5, 6, 7, 8, 9, 10, 11, 12] .nil) (.op 3 (.pre [] (.alt 1 (.pre [4, 5, 6, 7, 8, 9, 10, 11, 12] .nil) (.op 4 (.pre [5] (.alt 1 (.pre [6, 7, 8, 9, 10, 11, 12] .nil) (.op 6 (.pre [1, 7, 8, 9, 10, 11, 12] .nil)))))))))) [0, 1, 0, 4, 12, 28, 60, 127, 255, 511, 511, 1023, 4095]) (.join [16] .nil (.seq (.join [73] .nil .nil) (.seq .nil (.seq .nil (.seq .nil (.seq .nil (.seq (.seq .nil (.one (.loop [20, 21] .nil))) (.seq .nil (.seq (.join [127] .nil .nil) (.join [25] (.draw (.pre [0, 2, 3, 4] (.alt 1 (.pre [5, 6, 7, 8, 9, 10, 11, 12, 13, 14, 15, 16] .nil) (.op 5 (.pre [] (.alt 1 (.pre [6, 7, 8, 9, 10, 11, 12, 13, 14, 15, 16] .nil) (.op 6 (.pre [] (.alt 1 (.pre [7, 8, 9, 10, 11, 12, 13, 14, 15, 16] .nil) (.op 7 (.pre [] (.alt 1 (.pre [8, 9, 10, 11, 12, 13, 14, 15, 16] .nil) (.op 8 (.pre [9] (.alt 1 (.pre [10, 11, 12, 13, 14, 15, 16] .nil) (.op 10 (.pre [1, 11, 12, 13, 14, 15, 16] .nil)))))))))))))))) [0, 1, 0, 0, 8, 24, 56, 120, 252, 508, 1020, 2047, 4095, 8191, 8191, 16383, 65535]) .nil))))))))))))))))
def S_stavelaw2_GramTexts (a0 : Value) (a1 : Value) (a2 : Value) (a3 : Value) (w : World) (R : Ending → World → Prop) : Prop :=
  xE Tryd.prog (sCall 26 #[a0, (.int .i64 0), (.int .i64 5)]) w fun v29_1 w2 =>
  xE Tryd.prog (sCall 26 #[a1, (.int .i64 0), (.int .i64 5)]) w2 fun v32_3 w4 =>
  xP Tryd.prog (sBin .add 3 v29_1 v32_3) fun v33_5 =>
  xE Tryd.prog (sCall 26 #[a2, (.int .i64 0), (.int .i64 12)]) w4 fun v35_6 w7 =>
  xE Tryd.prog (sCall 26 #[a3, (.int .i64 0), (.int .i64 6)]) w7 fun v37_8 w9 =>
  xP Tryd.prog (sBuild 23 #[(0, (.int .i64 2)), (2, v29_1), (3, v33_5)]) fun v40_10 =>
  xE Tryd.prog (sAlloc 23) w9 fun v13_11 w12 =>
  xE Tryd.prog (sStore 23 v13_11 v40_10) w12 fun _ w13 =>
  xJoin (fun J14 =>
    xR Tryd.prog (sLoad 23 v13_11) (w13.drew) fun v42_15 =>
    (xE Tryd.prog (sBuildSlice 24 1 #[(0, v42_15)]) (w13.drew) fun v43_16 w17 =>
    xE Tryd.prog (sMakeSlice 25 v35_6 v35_6) w17 fun v45_18 w19 =>
    xE Tryd.prog (sConv 25 9 v45_18) w19 fun v46_20 w21 =>
    xP Tryd.prog (sBuild 32 #[(1, v46_20)]) fun v47_22 =>
    xE Tryd.prog (sBuildSlice 33 1 #[(0, v47_22)]) w21 fun v48_23 w24 =>
    xE Tryd.prog (sCall 16 #[v43_16, v48_23]) w24 fun v49_25 w26 =>
    xP Tryd.prog (sExtract v49_25 0) fun v50_27 =>
    xP Tryd.prog (sExtract v49_25 1) fun v51_28 =>
    J14 [v50_27, v51_28] w26) ∧
    (xE Tryd.prog (sMakeSlice 25 v35_6 v35_6) (w13.drew) fun v45_29 w30 =>
    xStill Tryd.prog (sLoad 23 v13_11) v42_15 w30 <|
    (xE Tryd.prog (sBuildSlice 24 1 #[(0, v42_15)]) w30 fun v43_31 w32 =>
    xE Tryd.prog (sConv 25 9 v45_29) w32 fun v46_33 w34 =>
    xP Tryd.prog (sBuild 32 #[(1, v46_33)]) fun v47_35 =>
    xE Tryd.prog (sBuildSlice 33 1 #[(0, v47_35)]) w34 fun v48_36 w37 =>
    xE Tryd.prog (sCall 16 #[v43_31, v48_36]) w37 fun v49_38 w39 =>
    xP Tryd.prog (sExtract v49_38 0) fun v50_40 =>
    xP Tryd.prog (sExtract v49_38 1) fun v51_41 =>
    J14 [v50_40, v51_41] w39) ∧
    (xE Tryd.prog (sConv 25 9 v45_29) w30 fun v46_42 w43 =>
    xStill Tryd.prog (sLoad 23 v13_11) v42_15 w43 <|
    xP Tryd.prog (sBuild 32 #[(1, v46_42)]) fun v47_44 =>
    (xE Tryd.prog (sBuildSlice 24 1 #[(0, v42_15)]) w43 fun v43_45 w46 =>
    xE Tryd.prog (sBuildSlice 33 1 #[(0, v47_44)]) w46 fun v48_47 w48 =>
    xE Tryd.prog (sCall 16 #[v43_45, v48_47]) w48 fun v49_49 w50 =>
    xP Tryd.prog (sExtract v49_49 0) fun v50_51 =>
    xP Tryd.prog (sExtract v49_49 1) fun v51_52 =>
    J14 [v50_51, v51_52] w50) ∧
    (xE Tryd.prog (sBuildSlice 33 1 #[(0, v47_44)]) w43 fun v48_53 w54 =>
    xStill Tryd.prog (sLoad 23 v13_11) v42_15 w54 <|
    xE Tryd.prog (sBuildSlice 24 1 #[(0, v42_15)]) w54 fun v43_55 w56 =>
    xE Tryd.prog (sCall 16 #[v43_55, v48_53]) w56 fun v49_57 w58 =>
    xP Tryd.prog (sExtract v49_57 0) fun v50_59 =>
    xP Tryd.prog (sExtract v49_57 1) fun v51_60 =>
    J14 [v50_59, v51_60] w58)))) fun vs61 _ w63 =>
  xJoin (fun J64 =>
    xP Tryd.prog (sBin .geq 3 v35_6 v29_1) fun v54_65 =>
    xIf v54_65 (
    xP Tryd.prog (sBin .leq 3 v35_6 v33_5) fun v58_66 =>
    J64 [v58_66] w63) (
    J64 [(.bool false)] w63)) fun vs67 _ w69 =>
  xJoin (fun J70 =>
    xR Tryd.prog (sEq .eql 27 true (vs61.getD 1 undef) (.nilIface)) w69 fun v61_71 =>
    xR Tryd.prog (sEq .neq 4 false v61_71 (vs67.getD 0 undef)) w69 fun v63_72 =>
    xIf v63_72 (
    J70 [(.bool true)] w69) (
    xIf (vs67.getD 0 undef) (
    xP Tryd.prog (sB .len #[25] #[(vs61.getD 0 undef)]) fun v68_73 =>
    xP Tryd.prog (sBin .add 3 (.int .i64 2) v35_6) fun v70_74 =>
    xR Tryd.prog (sEq .neq 3 false v68_73 v70_74) w69 fun v71_75 =>
    J70 [v71_75] w69) (
    J70 [(.bool false)] w69))) fun vs76 _ w78 =>
  xIf (vs76.getD 0 undef) (
    R (.returned (.bool false)) w78) (
    xR Tryd.prog (sLoad 23 v13_11) w78 fun v75_79 =>
  xE Tryd.prog (sBuildSlice 24 1 #[(0, v75_79)]) w78 fun v76_80 w81 =>
  xP Tryd.prog (sBin .add 3 v33_5 (.int .i64 1)) fun v78_82 =>
  xP Tryd.prog (sConv 3 5 v78_82) fun v79_83 =>
  xE Tryd.prog (sBuildSlice 25 2 #[(0, v79_83), (1, (.int .u8 0))]) w81 fun v80_84 w85 =>
  xE Tryd.prog (sCall 18 #[v76_80, v80_84]) w85 fun v81_86 w87 =>
  xP Tryd.prog (sExtract v81_86 0) fun _ =>
  xP Tryd.prog (sExtract v81_86 1) fun v83_89 =>
  xE Tryd.prog (sCall 20 #[v83_89]) w87 fun v85_90 w91 =>
  xR Tryd.prog (sEq .neq 39 true v85_90 (.int .i64 2)) w91 fun v86_92 =>
  xIf v86_92 (
    R (.returned (.bool false)) w91) (
    xP Tryd.prog (sBuild 23 #[(0, (.int .i64 3)), (2, v29_1), (3, v33_5), (4, v37_8)]) fun v90_93 =>
  xE Tryd.prog (sAlloc 23) w91 fun v19_94 w95 =>
  xE Tryd.prog (sStore 23 v19_94 v90_93) w95 fun _ w96 =>
  xLoop [(.slice none 0 0), (.int .i64 0)] w96 fun J97 vs98 _ w100 =>
    xP Tryd.prog (sBin .lss 3 (vs98.getD 1 undef) v35_6) fun v93_101 =>
    xIf v93_101 (
      xE Tryd.prog (sMakeSlice 25 v37_8 v37_8) w100 fun v98_102 w103 =>
    xE Tryd.prog (sConv 25 9 v98_102) w103 fun v99_104 w105 =>
    xE Tryd.prog (sBuildSlice 30 1 #[(0, v99_104)]) w105 fun v100_106 w107 =>
    xE Tryd.prog (sB .append #[30, 30] #[(vs98.getD 0 undef), v100_106]) w107 fun v101_108 w109 =>
    xP Tryd.prog (sBin .add 3 (vs98.getD 1 undef) (.int .i64 1)) fun v95_110 =>
    J97 [v101_108, v95_110] w109) (
      xR Tryd.prog (sLoad 23 v19_94) w100 fun v103_111 =>
  xE Tryd.prog (sBuildSlice 24 1 #[(0, v103_111)]) w100 fun v104_112 w113 =>
  xP Tryd.prog (sBuild 32 #[(2, (vs98.getD 0 undef))]) fun v106_114 =>
  xE Tryd.prog (sBuildSlice 33 1 #[(0, v106_114)]) w113 fun v107_115 w116 =>
  xE Tryd.prog (sCall 16 #[v104_112, v107_115]) w116 fun v108_117 w118 =>
  xP Tryd.prog (sExtract v108_117 0) fun v109_119 =>
  xP Tryd.prog (sExtract v108_117 1) fun v110_120 =>
  xJoin (fun J121 =>
    xR Tryd.prog (sEq .eql 27 true v110_120 (.nilIface)) w118 fun v112_122 =>
    xR Tryd.prog (sEq .neq 4 false v112_122 (vs67.getD 0 undef)) w118 fun v114_123 =>
    xIf v114_123 (
    J121 [(.bool true)] w118) (
    xIf (vs67.getD 0 undef) (
    xP Tryd.prog (sB .len #[25] #[v109_119]) fun v119_124 =>
    xP Tryd.prog (sBin .add 3 (.int .i64 2) v37_8) fun v122_125 =>
    xP Tryd.prog (sBin .mul 3 v35_6 v122_125) fun v123_126 =>
    xP Tryd.prog (sBin .add 3 (.int .i64 1) v123_126) fun v124_127 =>
    xR Tryd.prog (sEq .neq 3 false v119_124 v124_127) w118 fun v125_128 =>
    J121 [v125_128] w118) (
    J121 [(.bool false)] w118))) fun vs129 _ w131 =>
  xIf (vs129.getD 0 undef) (
    R (.returned (.bool false)) w131) (
    xJoin (fun J132 =>
    xR Tryd.prog (sLoad 23 v19_94) (w131.drew) fun v129_133 =>
    xP Tryd.prog (sBin .add 3 v37_8 (.int .i64 1)) fun v133_134 =>
    (xE Tryd.prog (sBuildSlice 24 1 #[(0, v129_133)]) (w131.drew) fun v130_135 w136 =>
    xE Tryd.prog (sMakeSlice 25 v133_134 v133_134) w136 fun v134_137 w138 =>
    xE Tryd.prog (sConv 25 9 v134_137) w138 fun v135_139 w140 =>
    xE Tryd.prog (sBuildSlice 30 1 #[(0, v135_139)]) w140 fun v136_141 w142 =>
    xE Tryd.prog (sB .append #[30, 30] #[(vs98.getD 0 undef), v136_141]) w142 fun v137_143 w144 =>
    xP Tryd.prog (sBuild 32 #[(2, v137_143)]) fun v138_145 =>
    xE Tryd.prog (sBuildSlice 33 1 #[(0, v138_145)]) w144 fun v139_146 w147 =>
    xE Tryd.prog (sCall 16 #[v130_135, v139_146]) w147 fun v140_148 w149 =>
    xP Tryd.prog (sExtract v140_148 0) fun _ =>
    xP Tryd.prog (sExtract v140_148 1) fun v142_151 =>
    J132 [v142_151] w149) ∧
    (xE Tryd.prog (sMakeSlice 25 v133_134 v133_134) (w131.drew) fun v134_152 w153 =>
    xStill Tryd.prog (sLoad 23 v19_94) v129_133 w153 <|
    (xE Tryd.prog (sBuildSlice 24 1 #[(0, v129_133)]) w153 fun v130_154 w155 =>
    xE Tryd.prog (sConv 25 9 v134_152) w155 fun v135_156 w157 =>
    xE Tryd.prog (sBuildSlice 30 1 #[(0, v135_156)]) w157 fun v136_158 w159 =>
    xE Tryd.prog (sB .append #[30, 30] #[(vs98.getD 0 undef), v136_158]) w159 fun v137_160 w161 =>
    xP Tryd.prog (sBuild 32 #[(2, v137_160)]) fun v138_162 =>
    xE Tryd.prog (sBuildSlice 33 1 #[(0, v138_162)]) w161 fun v139_163 w164 =>
    xE Tryd.prog (sCall 16 #[v130_154, v139_163]) w164 fun v140_165 w166 =>
    xP Tryd.prog (sExtract v140_165 0) fun _ =>
    xP Tryd.prog (sExtract v140_165 1) fun v142_168 =>
    J132 [v142_168] w166) ∧
    (xE Tryd.prog (sConv 25 9 v134_152) w153 fun v135_169 w170 =>
    xStill Tryd.prog (sLoad 23 v19_94) v129_133 w170 <|
    (xE Tryd.prog (sBuildSlice 24 1 #[(0, v129_133)]) w170 fun v130_171 w172 =>
    xE Tryd.prog (sBuildSlice 30 1 #[(0, v135_169)]) w172 fun v136_173 w174 =>
    xE Tryd.prog (sB .append #[30, 30] #[(vs98.getD 0 undef), v136_173]) w174 fun v137_175 w176 =>
    xP Tryd.prog (sBuild 32 #[(2, v137_175)]) fun v138_177 =>
    xE Tryd.prog (sBuildSlice 33 1 #[(0, v138_177)]) w176 fun v139_178 w179 =>
    xE Tryd.prog (sCall 16 #[v130_171, v139_178]) w179 fun v140_180 w181 =>
    xP Tryd.prog (sExtract v140_180 0) fun _ =>
    xP Tryd.prog (sExtract v140_180 1) fun v142_183 =>
    J132 [v142_183] w181) ∧
    (xE Tryd.prog (sBuildSlice 30 1 #[(0, v135_169)]) w170 fun v136_184 w185 =>
    xStill Tryd.prog (sLoad 23 v19_94) v129_133 w185 <|
    (xE Tryd.prog (sBuildSlice 24 1 #[(0, v129_133)]) w185 fun v130_186 w187 =>
    xE Tryd.prog (sB .append #[30, 30] #[(vs98.getD 0 undef), v136_184]) w187 fun v137_188 w189 =>
    xP Tryd.prog (sBuild 32 #[(2, v137_188)]) fun v138_190 =>
    xE Tryd.prog (sBuildSlice 33 1 #[(0, v138_190)]) w189 fun v139_191 w192 =>
    xE Tryd.prog (sCall 16 #[v130_186, v139_191]) w192 fun v140_193 w194 =>
    xP Tryd.prog (sExtract v140_193 0) fun _ =>
    xP Tryd.prog (sExtract v140_193 1) fun v142_196 =>
    J132 [v142_196] w194) ∧
    (xE Tryd.prog (sB .append #[30, 30] #[(vs98.getD 0 undef), v136_184]) w185 fun v137_197 w198 =>
    xStill Tryd.prog (sLoad 23 v19_94) v129_133 w198 <|
    xP Tryd.prog (sBuild 32 #[(2, v137_197)]) fun v138_199 =>
    (xE Tryd.prog (sBuildSlice 24 1 #[(0, v129_133)]) w198 fun v130_200 w201 =>
    xE Tryd.prog (sBuildSlice 33 1 #[(0, v138_199)]) w201 fun v139_202 w203 =>
    xE Tryd.prog (sCall 16 #[v130_200, v139_202]) w203 fun v140_204 w205 =>
    xP Tryd.prog (sExtract v140_204 0) fun _ =>
    xP Tryd.prog (sExtract v140_204 1) fun v142_207 =>
    J132 [v142_207] w205) ∧
    (xE Tryd.prog (sBuildSlice 33 1 #[(0, v138_199)]) w198 fun v139_208 w209 =>
    xStill Tryd.prog (sLoad 23 v19_94) v129_133 w209 <|
    xE Tryd.prog (sBuildSlice 24 1 #[(0, v129_133)]) w209 fun v130_210 w211 =>
    xE Tryd.prog (sCall 16 #[v130_210, v139_208]) w211 fun v140_212 w213 =>
    xP Tryd.prog (sExtract v140_212 0) fun _ =>
    xP Tryd.prog (sExtract v140_212 1) fun v142_215 =>
    J132 [v142_215] w213)))))) fun vs216 _ w218 =>
  xR Tryd.prog (sLoad 23 v19_94) w218 fun v144_219 =>
  xE Tryd.prog (sBuildSlice 24 1 #[(0, v144_219)]) w218 fun v145_220 w221 =>
  xP Tryd.prog (sBin .add 3 v33_5 (.int .i64 1)) fun v147_222 =>
  xP Tryd.prog (sConv 3 5 v147_222) fun v148_223 =>
  xE Tryd.prog (sBuildSlice 25 1 #[(0, v148_223)]) w221 fun v149_224 w225 =>
  xE Tryd.prog (sCall 18 #[v145_220, v149_224]) w225 fun v150_226 w227 =>
  xP Tryd.prog (sExtract v150_226 0) fun _ =>
  xP Tryd.prog (sExtract v150_226 1) fun v152_229 =>
  xE Tryd.prog (sCall 20 #[(vs216.getD 0 undef)]) w227 fun v154_230 w231 =>
  xR Tryd.prog (sEq .eql 39 true v154_230 (.int .i64 2)) w231 fun v155_232 =>
  xIf v155_232 (
  xE Tryd.prog (sCall 20 #[v152_229]) w231 fun v158_233 w234 =>
  xR Tryd.prog (sEq .eql 39 true v158_233 (.int .i64 2)) w234 fun v159_235 =>
  xIf v159_235 (
  xE Tryd.prog (sCall 3 #[]) w234 fun v162_236 w237 =>
  R (.returned v162_236) w237) (
  R (.returned (.bool false)) w234)) (
  R (.returned (.bool false)) w231)))))
theorem C_stavelaw2_GramTexts {a0 : Value} {a1 : Value} {a2 : Value} {a3 : Value} {w : World} {R : Ending → World → Prop} (h : S_stavelaw2_GramTexts a0 a1 a2 a3 w R) : Calls Tryd.prog 10 #[a0, a1, a2, a3] w R :=
  funcVC_sound (an := A_stavelaw2_GramTexts) (args := [a0, a1, a2, a3]) (k := 4) Tryd.func10 (by kernel_rfl) rfl
    (Eq.mp (show S_stavelaw2_GramTexts a0 a1 a2 a3 w R = funcVC Tryd.prog Tryd.f10 A_stavelaw2_GramTexts [a0, a1, a2, a3] w R by kernel_rfl) h)

/-- stave/stavelaw15.BatchRuns -/
def A_stavelaw15_BatchRuns : Ann := (.seq .nil (.seq .nil (.seq (.join [22] .nil .nil) .nil)))
def S_stavelaw15_BatchRuns (w : World) (R : Ending → World → Prop) : Prop :=
  xE Tryd.prog (sBuildSlice 30 1 #[(0, (.string (ByteArray.mk #[97])))]) w fun v4_1 w2 =>
  xP Tryd.prog (sBuild 63 #[(0, (.int .i64 1)), (1, (.int .i64 2)), (2, (.int .i64 3)), (3, v4_1)]) fun v5_3 =>
  xE Tryd.prog (sCall 31 #[v5_3]) w2 fun v6_4 w5 =>
  xJoin (fun J6 =>
    xP Tryd.prog (sB .len #[25] #[v6_4]) fun v8_7 =>
    xR Tryd.prog (sEq .neq 3 true v8_7 (.int .i64 24)) w5 fun v9_8 =>
    xIf v9_8 (
    J6 [(.bool true)] w5) (
    xP Tryd.prog (sIA 25 v6_4 (.int .i64 0)) fun v12_9 =>
    xR Tryd.prog (sLoad 5 v12_9) w5 fun v13_10 =>
    xR Tryd.prog (sEq .neq 5 true v13_10 (.int .u8 1)) w5 fun v14_11 =>
    xIf v14_11 (
    J6 [(.bool true)] w5) (
    xP Tryd.prog (sSlice 25 v6_4 (some (.int .i64 20)) none none) fun v18_12 =>
    xE Tryd.prog (sBuildSlice 25 4 #[(0, (.int .u8 1)), (1, (.int .u8 1)), (2, (.int .u8 0)), (3, (.int .u8 97))]) w5 fun v19_13 w14 =>
    xE Tryd.prog (sCall 17 #[v18_12, v19_13]) w14 fun v20_15 w16 =>
    xP Tryd.prog (sUn .not v20_15) fun v21_17 =>
    J6 [v21_17] w16))) fun vs18 _ w20 =>
  xIf (vs18.getD 0 undef) (
    R (.returned (.bool false)) w20) (
    xP Tryd.prog (sSlice 25 v6_4 none (some (.int .i64 23)) none) fun v25_21 =>
  xE Tryd.prog (sCall 32 #[v25_21]) w20 fun v26_22 w23 =>
  xP Tryd.prog (sExtract v26_22 0) fun v27_24 =>
  xP Tryd.prog (sExtract v26_22 1) fun v28_25 =>
  xE Tryd.prog (sAlloc 63) w23 fun v2_26 w27 =>
  xE Tryd.prog (sStore 63 v2_26 v27_24) w27 fun _ w28 =>
  xE Tryd.prog (sCall 20 #[v28_25]) w28 fun v30_29 w30 =>
  xR Tryd.prog (sEq .eql 39 true v30_29 (.int .i64 3)) w30 fun v31_31 =>
  xIf v31_31 (
  xE Tryd.prog (sBuildSlice 30 1 #[(0, (.string (ByteArray.mk #[97, 98])))]) w30 fun v33_32 w33 =>
  xP Tryd.prog (sBuild 63 #[(3, v33_32)]) fun v34_34 =>
  xE Tryd.prog (sCall 33 #[v34_34]) w33 fun v35_35 w36 =>
  xR Tryd.prog (sEq .eql 3 true v35_35 (.int .i64 25)) w36 fun v36_37 =>
  R (.returned v36_37) w36) (
  R (.returned (.bool false)) w30))
theorem C_stavelaw15_BatchRuns {w : World} {R : Ending → World → Prop} (h : S_stavelaw15_BatchRuns  w R) : Calls Tryd.prog 11 #[] w R :=
  funcVC_sound (an := A_stavelaw15_BatchRuns) (args := []) (k := 0) Tryd.func11 (by kernel_rfl) rfl
    (Eq.mp (show S_stavelaw15_BatchRuns  w R = funcVC Tryd.prog Tryd.f11 A_stavelaw15_BatchRuns [] w R by kernel_rfl) h)

/-- stave/stavelaw15.BatchTells -/
def A_stavelaw15_BatchTells : Ann := (.seq .nil (.seq .nil (.seq .nil (.seq (.join [44] (.draw (.pre [0, 2, 1, 3, 4, 5, 6, 7, 8, 9, 10, 11, 12, 13, 14, 15, 16, 17, 19, 20, 18, 21, 22, 23] .nil) [0, 1, 0, 7, 15, 31, 63, 63, 191, 511, 1023, 2047, 4095, 8191, 16383, 32767, 65535, 131071, 262143, 131071, 655359, 2097151, 4194303, 8388607]) .nil) (.seq .nil (.join [11] .nil .nil))))))
def S_stavelaw15_BatchTells (a0 : Value) (a1 : Value) (a2 : Value) (a3 : Value) (w : World) (R : Ending → World → Prop) : Prop :=
  xE Tryd.prog (sBox 63 a0) w fun v4_1 w2 =>
  xR Tryd.prog (sLoad 63 v4_1) w2 fun v17_3 =>
  xE Tryd.prog (sCall 34 #[v17_3]) w2 fun v18_4 w5 =>
  xE Tryd.prog (sAlloc 63) w5 fun v9_6 w7 =>
  xE Tryd.prog (sStore 63 v9_6 v18_4) w7 fun _ w8 =>
  xR Tryd.prog (sLoad 63 v9_6) w8 fun v19_9 =>
  xE Tryd.prog (sCall 31 #[v19_9]) w8 fun v20_10 w11 =>
  xJoin (fun J12 =>
    xR Tryd.prog (sLoad 63 v9_6) (w11.drew) fun v21_13 =>
    xR Tryd.prog (sLoad 63 v9_6) (w11.drew) fun v23_14 =>
    xE Tryd.prog (sCall 35 #[v21_13]) (w11.drew) fun v22_15 w16 =>
    xStill Tryd.prog (sLoad 63 v9_6) v23_14 w16 <|
    xE Tryd.prog (sCall 36 #[v23_14]) w16 fun v24_17 w18 =>
    xR Tryd.prog (sEq .neq 4 false v22_15 v24_17) w18 fun v25_19 =>
    xIf v25_19 (
    J12 [(.bool true)] w18) (
    xR Tryd.prog (sLoad 63 v9_6) w18 fun v28_20 =>
    xE Tryd.prog (sCall 37 #[v28_20]) w18 fun v29_21 w22 =>
    xE Tryd.prog (sCall 17 #[v20_10, v29_21]) w22 fun v30_23 w24 =>
    xP Tryd.prog (sUn .not v30_23) fun v31_25 =>
    xIf v31_25 (
    J12 [(.bool true)] w24) (
    xP Tryd.prog (sB .len #[25] #[v20_10]) fun v35_26 =>
    xP Tryd.prog (sBin .gtr 3 v35_26 (.int .i64 0)) fun v36_27 =>
    xIf v36_27 (
    xR Tryd.prog (sLoad 63 v9_6) w24 fun v38_28 =>
    xP Tryd.prog (sB .len #[25] #[v20_10]) fun v41_29 =>
    xE Tryd.prog (sCall 33 #[v38_28]) w24 fun v39_30 w31 =>
    xR Tryd.prog (sEq .neq 3 false v39_30 v41_29) w31 fun v42_32 =>
    J12 [v42_32] w31) (
    J12 [(.bool false)] w24)))) fun vs33 _ w35 =>
  xIf (vs33.getD 0 undef) (
    R (.returned (.bool false)) w35) (
    xE Tryd.prog (sBuildSlice 25 0 #[]) w35 fun v45_36 w37 =>
  xP Tryd.prog (sB .len #[25] #[a1]) fun v48_38 =>
  xP Tryd.prog (sB .min #[3, 3] #[v48_38, (.int .i64 100)]) fun v49_39 =>
  xP Tryd.prog (sSlice 25 a1 none (some v49_39) none) fun v50_40 =>
  xE Tryd.prog (sB .append #[25, 25] #[v45_36, v50_40]) w37 fun v51_41 w42 =>
  xJoin (fun J43 =>
    xP Tryd.prog (sB .len #[25] #[v20_10]) fun v53_44 =>
    xP Tryd.prog (sBin .gtr 3 v53_44 (.int .i64 0)) fun v54_45 =>
    xIf v54_45 (
      xE Tryd.prog (sBuildSlice 25 0 #[]) w42 fun v55_46 w47 =>
      xE Tryd.prog (sB .append #[25, 25] #[v55_46, v20_10]) w47 fun v57_48 w49 =>
      xP Tryd.prog (sB .len #[25] #[v57_48]) fun v61_50 =>
      xP Tryd.prog (sBin .sub 3 v61_50 (.int .i64 1)) fun v62_51 =>
      xE Tryd.prog (sCall 26 #[a2, (.int .i64 0), v62_51]) w49 fun v63_52 w53 =>
      xP Tryd.prog (sIA 25 v57_48 v63_52) fun v64_54 =>
      xR Tryd.prog (sLoad 5 v64_54) w53 fun v65_55 =>
      xP Tryd.prog (sBin .xor 5 v65_55 a3) fun v67_56 =>
      xP Tryd.prog (sIA 25 v57_48 v63_52) fun v68_57 =>
      xE Tryd.prog (sStore 5 v68_57 v67_56) w53 fun _ w58 =>
      J43 [v57_48] w58) (
      J43 [v51_41] w42)) fun vs59 _ w61 =>
  xE Tryd.prog (sCall 27 #[(vs59.getD 0 undef), (.int .u8 7)]) w61 fun v70_62 w63 =>
  xP Tryd.prog (sB .len #[25] #[(vs59.getD 0 undef)]) fun v74_64 =>
  xP Tryd.prog (sSlice 25 v70_62 none (some v74_64) none) fun v75_65 =>
  xE Tryd.prog (sCall 32 #[v75_65]) w63 fun v76_66 w67 =>
  xP Tryd.prog (sExtract v76_66 0) fun v77_68 =>
  xP Tryd.prog (sExtract v76_66 1) fun v78_69 =>
  xE Tryd.prog (sAlloc 63) w67 fun v13_70 w71 =>
  xE Tryd.prog (sStore 63 v13_70 v77_68) w71 fun _ w72 =>
  xE Tryd.prog (sCall 38 #[(vs59.getD 0 undef)]) w72 fun v81_73 w74 =>
  xP Tryd.prog (sExtract v81_73 0) fun v82_75 =>
  xP Tryd.prog (sExtract v81_73 1) fun v83_76 =>
  xE Tryd.prog (sAlloc 63) w74 fun v15_77 w78 =>
  xE Tryd.prog (sStore 63 v15_77 v82_75) w78 fun _ w79 =>
  xR Tryd.prog (sLoad 63 v13_70) w79 fun v84_80 =>
  xR Tryd.prog (sLoad 63 v15_77) w79 fun v85_81 =>
  xE Tryd.prog (sCall 39 #[v84_80, v85_81]) w79 fun v86_82 w83 =>
  xIf v86_82 (
  xE Tryd.prog (sCall 20 #[v78_69]) w83 fun v89_84 w85 =>
  xR Tryd.prog (sEq .eql 3 false v89_84 v83_76) w85 fun v91_86 =>
  xIf v91_86 (
  xE Tryd.prog (sCall 30 #[v70_62, (vs59.getD 0 undef), (.int .u8 7)]) w85 fun v96_87 w88 =>
  xIf v96_87 (
  xE Tryd.prog (sCall 11 #[]) w88 fun v99_89 w90 =>
  R (.returned v99_89) w90) (
  R (.returned (.bool false)) w88)) (
  R (.returned (.bool false)) w85)) (
  R (.returned (.bool false)) w83))
theorem C_stavelaw15_BatchTells {a0 : Value} {a1 : Value} {a2 : Value} {a3 : Value} {w : World} {R : Ending → World → Prop} (h : S_stavelaw15_BatchTells a0 a1 a2 a3 w R) : Calls Tryd.prog 12 #[a0, a1, a2, a3] w R :=
  funcVC_sound (an := A_stavelaw15_BatchTells) (args := [a0, a1, a2, a3]) (k := 4) Tryd.func12 (by kernel_rfl) rfl
    (Eq.mp (show S_stavelaw15_BatchTells a0 a1 a2 a3 w R = funcVC Tryd.prog Tryd.f12 A_stavelaw15_BatchTells [a0, a1, a2, a3] w R by kernel_rfl) h)

/-- stave/stavelaw15.BatchBack -/
def A_stavelaw15_BatchBack : Ann := (.seq .nil (.join [9, 10] (.draw (.pre [0, 2] (.alt 1 (.pre [] (.alt 3 (.pre [] (.alt 4 (.pre [5, 6, 7] .nil) (.op 5 (.pre [4, 6, 7] .nil)))) (.alt 4 (.pre [] (.alt 3 (.pre [5, 6, 7] .nil) (.op 5 (.pre [3, 6, 7] .nil)))) (.op 5 (.pre [] (.alt 3 (.pre [4, 6, 7] .nil) (.op 4 (.pre [3, 6, 7] .nil)))))))) (.alt 4 (.pre [] (.alt 1 (.pre [] (.alt 3 (.pre [5, 6, 7] .nil) (.op 5 (.pre [3, 6, 7] .nil)))) (.op 5 (.pre [1, 3, 6, 7] .nil)))) (.op 5 (.pre [] (.alt 1 (.pre [] (.alt 3 (.pre [4, 6, 7] .nil) (.op 4 (.pre [3, 6, 7] .nil)))) (.op 4 (.pre [1, 3, 6, 7] .nil)))))))) [0, 1, 0, 7, 0, 0, 63, 127]) (.seq (.draw (.pre [0, 2, 1, 3, 4, 5] .nil) [0, 1, 0, 7, 15, 31]) (.seq (.join [34] .nil .nil) (.seq .nil (.seq .nil (.seq .nil (.seq (.draw (.pre [0, 1, 2, 3, 4, 5, 6, 7, 8, 9, 11, 12, 10, 13, 14, 15, 16, 17, 18, 19, 20, 21, 22, 23, 24, 25, 26, 27, 28, 29] .nil) [0, 1, 3, 7, 7, 31, 63, 127, 255, 255, 1023, 255, 255, 8191, 16383, 32767, 65535, 131071, 262143, 524287, 1048575, 2097151, 4194303, 8388607, 16777215, 33554431, 67108863, 134217727, 268435455, 536870911]) .nil))))))))
def S_stavelaw15_BatchBack (a0 : Value) (a1 : Value) (a2 : Value) (a3 : Value) (w : World) (R : Ending → World → Prop) : Prop :=
  xE Tryd.prog (sBox 63 a0) w fun v4_1 w2 =>
  xE Tryd.prog (sBox 63 a1) w2 fun v5_3 w4 =>
  xJoin (fun J5 =>
    xR Tryd.prog (sLoad 63 v4_1) (w4.drew) fun v19_6 =>
    xR Tryd.prog (sLoad 63 v5_3) (w4.drew) fun v21_7 =>
    (xE Tryd.prog (sCall 34 #[v19_6]) (w4.drew) fun v20_8 w9 =>
    xStill Tryd.prog (sLoad 63 v5_3) v21_7 w9 <|
    (xE Tryd.prog (sCall 34 #[v21_7]) w9 fun v22_10 w11 =>
    (xE Tryd.prog (sAlloc 63) w11 fun v9_12 w13 =>
    xE Tryd.prog (sAlloc 63) w13 fun v10_14 w15 =>
    xE Tryd.prog (sStore 63 v9_12 v20_8) w15 fun _ w16 =>
    xE Tryd.prog (sStore 63 v10_14 v22_10) w16 fun _ w17 =>
    J5 [v9_12, v10_14] w17) ∧
    (xE Tryd.prog (sAlloc 63) w11 fun v10_18 w19 =>
    xE Tryd.prog (sAlloc 63) w19 fun v9_20 w21 =>
    xE Tryd.prog (sStore 63 v9_20 v20_8) w21 fun _ w22 =>
    xE Tryd.prog (sStore 63 v10_18 v22_10) w22 fun _ w23 =>
    J5 [v9_20, v10_18] w23)) ∧
    (xE Tryd.prog (sAlloc 63) w9 fun v9_24 w25 =>
    xStill Tryd.prog (sLoad 63 v5_3) v21_7 w25 <|
    (xE Tryd.prog (sCall 34 #[v21_7]) w25 fun v22_26 w27 =>
    xE Tryd.prog (sAlloc 63) w27 fun v10_28 w29 =>
    xE Tryd.prog (sStore 63 v9_24 v20_8) w29 fun _ w30 =>
    xE Tryd.prog (sStore 63 v10_28 v22_26) w30 fun _ w31 =>
    J5 [v9_24, v10_28] w31) ∧
    (xE Tryd.prog (sAlloc 63) w25 fun v10_32 w33 =>
    xStill Tryd.prog (sLoad 63 v5_3) v21_7 w33 <|
    xE Tryd.prog (sCall 34 #[v21_7]) w33 fun v22_34 w35 =>
    xE Tryd.prog (sStore 63 v9_24 v20_8) w35 fun _ w36 =>
    xE Tryd.prog (sStore 63 v10_32 v22_34) w36 fun _ w37 =>
    J5 [v9_24, v10_32] w37)) ∧
    (xE Tryd.prog (sAlloc 63) w9 fun v10_38 w39 =>
    xStill Tryd.prog (sLoad 63 v5_3) v21_7 w39 <|
    (xE Tryd.prog (sCall 34 #[v21_7]) w39 fun v22_40 w41 =>
    xE Tryd.prog (sAlloc 63) w41 fun v9_42 w43 =>
    xE Tryd.prog (sStore 63 v9_42 v20_8) w43 fun _ w44 =>
    xE Tryd.prog (sStore 63 v10_38 v22_40) w44 fun _ w45 =>
    J5 [v9_42, v10_38] w45) ∧
    (xE Tryd.prog (sAlloc 63) w39 fun v9_46 w47 =>
    xStill Tryd.prog (sLoad 63 v5_3) v21_7 w47 <|
    xE Tryd.prog (sCall 34 #[v21_7]) w47 fun v22_48 w49 =>
    xE Tryd.prog (sStore 63 v9_46 v20_8) w49 fun _ w50 =>
    xE Tryd.prog (sStore 63 v10_38 v22_48) w50 fun _ w51 =>
    J5 [v9_46, v10_38] w51))) ∧
    (xE Tryd.prog (sAlloc 63) (w4.drew) fun v9_52 w53 =>
    xStill Tryd.prog (sLoad 63 v5_3) v21_7 w53 <|
    xStill Tryd.prog (sLoad 63 v4_1) v19_6 w53 <|
    (xE Tryd.prog (sCall 34 #[v19_6]) w53 fun v20_54 w55 =>
    xStill Tryd.prog (sLoad 63 v5_3) v21_7 w55 <|
    (xE Tryd.prog (sCall 34 #[v21_7]) w55 fun v22_56 w57 =>
    xE Tryd.prog (sAlloc 63) w57 fun v10_58 w59 =>
    xE Tryd.prog (sStore 63 v9_52 v20_54) w59 fun _ w60 =>
    xE Tryd.prog (sStore 63 v10_58 v22_56) w60 fun _ w61 =>
    J5 [v9_52, v10_58] w61) ∧
    (xE Tryd.prog (sAlloc 63) w55 fun v10_62 w63 =>
    xStill Tryd.prog (sLoad 63 v5_3) v21_7 w63 <|
    xE Tryd.prog (sCall 34 #[v21_7]) w63 fun v22_64 w65 =>
    xE Tryd.prog (sStore 63 v9_52 v20_54) w65 fun _ w66 =>
    xE Tryd.prog (sStore 63 v10_62 v22_64) w66 fun _ w67 =>
    J5 [v9_52, v10_62] w67)) ∧
    (xE Tryd.prog (sAlloc 63) w53 fun v10_68 w69 =>
    xStill Tryd.prog (sLoad 63 v5_3) v21_7 w69 <|
    xStill Tryd.prog (sLoad 63 v4_1) v19_6 w69 <|
    xE Tryd.prog (sCall 34 #[v19_6]) w69 fun v20_70 w71 =>
    xStill Tryd.prog (sLoad 63 v5_3) v21_7 w71 <|
    xE Tryd.prog (sCall 34 #[v21_7]) w71 fun v22_72 w73 =>
    xE Tryd.prog (sStore 63 v9_52 v20_70) w73 fun _ w74 =>
    xE Tryd.prog (sStore 63 v10_68 v22_72) w74 fun _ w75 =>
    J5 [v9_52, v10_68] w75)) ∧
    (xE Tryd.prog (sAlloc 63) (w4.drew) fun v10_76 w77 =>
    xStill Tryd.prog (sLoad 63 v5_3) v21_7 w77 <|
    xStill Tryd.prog (sLoad 63 v4_1) v19_6 w77 <|
    (xE Tryd.prog (sCall 34 #[v19_6]) w77 fun v20_78 w79 =>
    xStill Tryd.prog (sLoad 63 v5_3) v21_7 w79 <|
    (xE Tryd.prog (sCall 34 #[v21_7]) w79 fun v22_80 w81 =>
    xE Tryd.prog (sAlloc 63) w81 fun v9_82 w83 =>
    xE Tryd.prog (sStore 63 v9_82 v20_78) w83 fun _ w84 =>
    xE Tryd.prog (sStore 63 v10_76 v22_80) w84 fun _ w85 =>
    J5 [v9_82, v10_76] w85) ∧
    (xE Tryd.prog (sAlloc 63) w79 fun v9_86 w87 =>
    xStill Tryd.prog (sLoad 63 v5_3) v21_7 w87 <|
    xE Tryd.prog (sCall 34 #[v21_7]) w87 fun v22_88 w89 =>
    xE Tryd.prog (sStore 63 v9_86 v20_78) w89 fun _ w90 =>
    xE Tryd.prog (sStore 63 v10_76 v22_88) w90 fun _ w91 =>
    J5 [v9_86, v10_76] w91)) ∧
    (xE Tryd.prog (sAlloc 63) w77 fun v9_92 w93 =>
    xStill Tryd.prog (sLoad 63 v5_3) v21_7 w93 <|
    xStill Tryd.prog (sLoad 63 v4_1) v19_6 w93 <|
    xE Tryd.prog (sCall 34 #[v19_6]) w93 fun v20_94 w95 =>
    xStill Tryd.prog (sLoad 63 v5_3) v21_7 w95 <|
    xE Tryd.prog (sCall 34 #[v21_7]) w95 fun v22_96 w97 =>
    xE Tryd.prog (sStore 63 v9_92 v20_94) w97 fun _ w98 =>
    xE Tryd.prog (sStore 63 v10_76 v22_96) w98 fun _ w99 =>
    J5 [v9_92, v10_76] w99))) fun vs100 _ w102 =>
  xR Tryd.prog (sLoad 63 (vs100.getD 0 undef)) (w102.drew) fun v23_103 =>
  xR Tryd.prog (sLoad 63 (vs100.getD 1 undef)) (w102.drew) fun v25_104 =>
  xE Tryd.prog (sCall 31 #[v23_103]) (w102.drew) fun v24_105 w106 =>
  xStill Tryd.prog (sLoad 63 (vs100.getD 1 undef)) v25_104 w106 <|
  xE Tryd.prog (sCall 31 #[v25_104]) w106 fun v26_107 w108 =>
  xJoin (fun J109 =>
    xP Tryd.prog (sB .len #[25] #[v24_105]) fun v28_110 =>
    xR Tryd.prog (sEq .eql 3 true v28_110 (.int .i64 0)) w108 fun v29_111 =>
    xIf v29_111 (
    J109 [(.bool true)] w108) (
    xP Tryd.prog (sB .len #[25] #[v26_107]) fun v32_112 =>
    xR Tryd.prog (sEq .eql 3 true v32_112 (.int .i64 0)) w108 fun v33_113 =>
    J109 [v33_113] w108)) fun vs114 _ w116 =>
  xIf (vs114.getD 0 undef) (
    xP Tryd.prog (sB .len #[25] #[v24_105]) fun v36_117 =>
    xP Tryd.prog (sBin .gtr 3 v36_117 (.int .i64 0)) fun v37_118 =>
    xR Tryd.prog (sLoad 63 (vs100.getD 0 undef)) w116 fun v38_119 =>
    xE Tryd.prog (sCall 35 #[v38_119]) w116 fun v39_120 w121 =>
    xR Tryd.prog (sEq .eql 4 false v37_118 v39_120) w121 fun v40_122 =>
    xIf v40_122 (
    xP Tryd.prog (sB .len #[25] #[v26_107]) fun v43_123 =>
    xP Tryd.prog (sBin .gtr 3 v43_123 (.int .i64 0)) fun v44_124 =>
    xR Tryd.prog (sLoad 63 (vs100.getD 1 undef)) w121 fun v45_125 =>
    xE Tryd.prog (sCall 35 #[v45_125]) w121 fun v46_126 w127 =>
    xR Tryd.prog (sEq .eql 4 false v44_124 v46_126) w127 fun v47_128 =>
    xIf v47_128 (
    xE Tryd.prog (sCall 11 #[]) w127 fun v50_129 w130 =>
    R (.returned v50_129) w130) (
    R (.returned (.bool false)) w127)) (
    R (.returned (.bool false)) w121)) (
    xE Tryd.prog (sCall 32 #[v24_105]) w116 fun v54_131 w132 =>
  xP Tryd.prog (sExtract v54_131 0) fun v55_133 =>
  xP Tryd.prog (sExtract v54_131 1) fun v56_134 =>
  xE Tryd.prog (sAlloc 63) w132 fun v13_135 w136 =>
  xE Tryd.prog (sStore 63 v13_135 v55_133) w136 fun _ w137 =>
  xP Tryd.prog (sB .len #[25] #[v24_105]) fun v61_138 =>
  xP Tryd.prog (sBin .sub 3 v61_138 (.int .i64 1)) fun v62_139 =>
  xE Tryd.prog (sCall 26 #[a2, (.int .i64 0), v62_139]) w137 fun v63_140 w141 =>
  xP Tryd.prog (sSlice 25 v24_105 none (some v63_140) none) fun v64_142 =>
  xE Tryd.prog (sCall 32 #[v64_142]) w141 fun v65_143 w144 =>
  xP Tryd.prog (sExtract v65_143 0) fun v66_145 =>
  xP Tryd.prog (sExtract v65_143 1) fun v67_146 =>
  xE Tryd.prog (sAlloc 63) w144 fun v15_147 w148 =>
  xE Tryd.prog (sStore 63 v15_147 v66_145) w148 fun _ w149 =>
  xE Tryd.prog (sBuildSlice 25 0 #[]) w149 fun v69_150 w151 =>
  xE Tryd.prog (sB .append #[25, 25] #[v69_150, v24_105]) w151 fun v71_152 w153 =>
  xE Tryd.prog (sBuildSlice 25 1 #[(0, a3)]) w153 fun v73_154 w155 =>
  xE Tryd.prog (sB .append #[25, 25] #[v71_152, v73_154]) w155 fun v74_156 w157 =>
  xE Tryd.prog (sCall 32 #[v74_156]) w157 fun v75_158 w159 =>
  xP Tryd.prog (sExtract v75_158 0) fun v76_160 =>
  xP Tryd.prog (sExtract v75_158 1) fun v77_161 =>
  xE Tryd.prog (sAlloc 63) w159 fun v17_162 w163 =>
  xE Tryd.prog (sStore 63 v17_162 v76_160) w163 fun _ w164 =>
  xR Tryd.prog (sEq .eql 27 true v56_134 (.nilIface)) (w164.drew) fun v79_165 =>
  xIf v79_165 (
  xR Tryd.prog (sLoad 63 v13_135) (w164.drew) fun v81_166 =>
  xR Tryd.prog (sLoad 63 (vs100.getD 0 undef)) (w164.drew) fun v82_167 =>
  xE Tryd.prog (sCall 39 #[v81_166, v82_167]) (w164.drew) fun v83_168 w169 =>
  xIf v83_168 (
  xR Tryd.prog (sLoad 63 (vs100.getD 0 undef)) w169 fun v89_170 =>
  xR Tryd.prog (sLoad 63 (vs100.getD 1 undef)) w169 fun v90_171 =>
  xE Tryd.prog (sCall 17 #[v24_105, v26_107]) w169 fun v88_172 w173 =>
  xStill Tryd.prog (sLoad 63 (vs100.getD 1 undef)) v90_171 w173 <|
  xStill Tryd.prog (sLoad 63 (vs100.getD 0 undef)) v89_170 w173 <|
  xE Tryd.prog (sCall 39 #[v89_170, v90_171]) w173 fun v91_174 w175 =>
  xR Tryd.prog (sEq .eql 4 false v88_172 v91_174) w175 fun v92_176 =>
  xIf v92_176 (
  xE Tryd.prog (sCall 20 #[v67_146]) w175 fun v96_177 w178 =>
  xR Tryd.prog (sEq .eql 39 true v96_177 (.int .i64 3)) w178 fun v97_179 =>
  xIf v97_179 (
  xE Tryd.prog (sCall 20 #[v77_161]) w178 fun v101_180 w181 =>
  xR Tryd.prog (sEq .eql 39 true v101_180 (.int .i64 4)) w181 fun v102_182 =>
  xIf v102_182 (
  xE Tryd.prog (sCall 11 #[]) w181 fun v105_183 w184 =>
  R (.returned v105_183) w184) (
  R (.returned (.bool false)) w181)) (
  R (.returned (.bool false)) w178)) (
  R (.returned (.bool false)) w175)) (
  R (.returned (.bool false)) w169)) (
  R (.returned (.bool false)) (w164.drew)))
theorem C_stavelaw15_BatchBack {a0 : Value} {a1 : Value} {a2 : Value} {a3 : Value} {w : World} {R : Ending → World → Prop} (h : S_stavelaw15_BatchBack a0 a1 a2 a3 w R) : Calls Tryd.prog 13 #[a0, a1, a2, a3] w R :=
  funcVC_sound (an := A_stavelaw15_BatchBack) (args := [a0, a1, a2, a3]) (k := 4) Tryd.func13 (by kernel_rfl) rfl
    (Eq.mp (show S_stavelaw15_BatchBack a0 a1 a2 a3 w R = funcVC Tryd.prog Tryd.f13 A_stavelaw15_BatchBack [a0, a1, a2, a3] w R by kernel_rfl) h)

/-- stave/stavelaw15.BatchEnds -/
def A_stavelaw15_BatchEnds : Ann := (.seq .nil (.seq .nil (.seq .nil (.seq (.seq .nil (.one (.loop [10] (.seq .nil (.seq (.one (.draw (.pre [0, 1, 2, 3, 4, 5, 6, 7, 8] .nil) [0, 1, 0, 4, 12, 28, 63, 127, 255])) .nil))))) (.seq (.join [50] (.draw (.pre [0, 1, 2, 3, 4, 6, 7, 8, 9, 10, 5, 11, 12, 13, 14, 17, 15, 16, 18, 19, 20] .nil) [0, 1, 3, 7, 15, 31, 15, 15, 143, 463, 975, 2047, 4095, 8191, 16383, 32767, 65535, 16383, 196607, 524287, 1048575]) .nil) (.seq .nil (.join [] (.seq .nil (.one (.seq .nil (.seq .nil (.seq .nil (.seq .nil (.seq .nil (.seq .nil (.seq .nil (.seq .nil (.seq .nil (.seq .nil (.seq .nil (.seq (.draw (.pre [3, 4, 5, 0, 1, 2, 6, 7, 8] .nil) [0, 1, 3, 0, 8, 24, 63, 127, 255]) .nil)))))))))))))) .nil)))))))
def S_stavelaw15_BatchEnds (a0 : Value) (a1 : Value) (a2 : Value) (w : World) (R : Ending → World → Prop) : Prop :=
  xE Tryd.prog (sCall 26 #[a0, (.int .i64 1), (.int .i64 8)]) w fun v13_1 w2 =>
  xE Tryd.prog (sCall 26 #[a1, (.int .i64 0), (.int .i64 60)]) w2 fun v15_3 w4 =>
  xP Tryd.prog (sBuild 63 #[(0, (.int .i64 1125899906842624)), (1, (.int .i64 1048576)), (2, (.int .i64 1099511627776))]) fun v16_5 =>
  xE Tryd.prog (sAlloc 63) w4 fun v9_6 w7 =>
  xE Tryd.prog (sStore 63 v9_6 v16_5) w7 fun _ w8 =>
  xLoop [(.int .i64 0)] w8 fun J9 vs10 _ w12 =>
    xP Tryd.prog (sBin .lss 3 (vs10.getD 0 undef) v13_1) fun v19_13 =>
    xIf v19_13 (
      xP Tryd.prog (sFA 63 v9_6 3) fun v22_14 =>
    xR Tryd.prog (sLoad 30 v22_14) (w12.drew) fun v23_15 =>
    xE Tryd.prog (sMakeSlice 25 v15_3 v15_3) (w12.drew) fun v25_16 w17 =>
    xStill Tryd.prog (sLoad 30 v22_14) v23_15 w17 <|
    xE Tryd.prog (sConv 25 9 v25_16) w17 fun v26_18 w19 =>
    xStill Tryd.prog (sLoad 30 v22_14) v23_15 w19 <|
    xE Tryd.prog (sBuildSlice 30 1 #[(0, v26_18)]) w19 fun v27_20 w21 =>
    xStill Tryd.prog (sLoad 30 v22_14) v23_15 w21 <|
    xE Tryd.prog (sB .append #[30, 30] #[v23_15, v27_20]) w21 fun v28_22 w23 =>
    xP Tryd.prog (sFA 63 v9_6 3) fun v29_24 =>
    xE Tryd.prog (sStore 30 v29_24 v28_22) w23 fun _ w25 =>
    xP Tryd.prog (sBin .add 3 (vs10.getD 0 undef) (.int .i64 1)) fun v21_26 =>
    J9 [v21_26] w25) (
      xJoin (fun J27 =>
    xR Tryd.prog (sLoad 63 v9_6) (w12.drew) fun v30_28 =>
    xE Tryd.prog (sCall 35 #[v30_28]) (w12.drew) fun v31_29 w30 =>
    xP Tryd.prog (sUn .not v31_29) fun v32_31 =>
    xIf v32_31 (
    J27 [(.bool true)] w30) (
    xR Tryd.prog (sLoad 63 v9_6) w30 fun v34_32 =>
    xP Tryd.prog (sBin .add 3 (.int .i64 2) v15_3) fun v38_33 =>
    xP Tryd.prog (sBin .mul 3 v13_1 v38_33) fun v39_34 =>
    xP Tryd.prog (sBin .add 3 (.int .i64 21) v39_34) fun v40_35 =>
    xE Tryd.prog (sCall 33 #[v34_32]) w30 fun v35_36 w37 =>
    xR Tryd.prog (sEq .neq 3 false v35_36 v40_35) w37 fun v41_38 =>
    xIf v41_38 (
    J27 [(.bool true)] w37) (
    xR Tryd.prog (sLoad 63 v9_6) w37 fun v44_39 =>
    xR Tryd.prog (sLoad 63 v9_6) w37 fun v47_40 =>
    xE Tryd.prog (sCall 31 #[v44_39]) w37 fun v45_41 w42 =>
    xStill Tryd.prog (sLoad 63 v9_6) v47_40 w42 <|
    xP Tryd.prog (sB .len #[25] #[v45_41]) fun v46_43 =>
    xE Tryd.prog (sCall 33 #[v47_40]) w42 fun v48_44 w45 =>
    xR Tryd.prog (sEq .neq 3 false v46_43 v48_44) w45 fun v49_46 =>
    J27 [v49_46] w45))) fun vs47 _ w49 =>
  xIf (vs47.getD 0 undef) (
    R (.returned (.bool false)) w49) (
    xR Tryd.prog (sLoad 63 v9_6) w49 fun v51_50 =>
  xE Tryd.prog (sAlloc 63) w49 fun v11_51 w52 =>
  xE Tryd.prog (sStore 63 v11_51 v51_50) w52 fun _ w53 =>
  xJoin (fun J54 =>
    xE Tryd.prog (sCall 26 #[a2, (.int .i64 0), (.int .i64 6)]) w53 fun v53_55 w56 =>
    xR Tryd.prog (sEq .eql 3 true v53_55 (.int .i64 0)) w56 fun v55_57 =>
    xIf v55_57 (
      xP Tryd.prog (sFA 63 v11_51 0) fun v56_58 =>
      xR Tryd.prog (sLoad 3 v56_58) w56 fun v57_59 =>
      xP Tryd.prog (sBin .add 3 v57_59 (.int .i64 1)) fun v58_60 =>
      xP Tryd.prog (sFA 63 v11_51 0) fun v59_61 =>
      xE Tryd.prog (sStore 3 v59_61 v58_60) w56 fun _ w62 =>
      J54 [] w62) (
      xR Tryd.prog (sEq .eql 3 true v53_55 (.int .i64 1)) w56 fun v61_63 =>
      xIf v61_63 (
        xP Tryd.prog (sFA 63 v11_51 1) fun v62_64 =>
        xR Tryd.prog (sLoad 3 v62_64) w56 fun v63_65 =>
        xP Tryd.prog (sBin .add 3 v63_65 (.int .i64 1)) fun v64_66 =>
        xP Tryd.prog (sFA 63 v11_51 1) fun v65_67 =>
        xE Tryd.prog (sStore 3 v65_67 v64_66) w56 fun _ w68 =>
        J54 [] w68) (
        xR Tryd.prog (sEq .eql 3 true v53_55 (.int .i64 2)) w56 fun v67_69 =>
        xIf v67_69 (
          xP Tryd.prog (sFA 63 v11_51 2) fun v68_70 =>
          xR Tryd.prog (sLoad 3 v68_70) w56 fun v69_71 =>
          xP Tryd.prog (sBin .add 3 v69_71 (.int .i64 1)) fun v70_72 =>
          xP Tryd.prog (sFA 63 v11_51 2) fun v71_73 =>
          xE Tryd.prog (sStore 3 v71_73 v70_72) w56 fun _ w74 =>
          J54 [] w74) (
          xR Tryd.prog (sEq .eql 3 true v53_55 (.int .i64 3)) w56 fun v73_75 =>
          xIf v73_75 (
            xP Tryd.prog (sFA 63 v11_51 1) fun v74_76 =>
            xE Tryd.prog (sStore 3 v74_76 (.int .i64 0)) w56 fun _ w77 =>
            J54 [] w77) (
            xR Tryd.prog (sEq .eql 3 true v53_55 (.int .i64 4)) w56 fun v76_78 =>
            xIf v76_78 (
              xP Tryd.prog (sFA 63 v11_51 3) fun v77_79 =>
              xE Tryd.prog (sStore 30 v77_79 (.slice none 0 0)) w56 fun _ w80 =>
              J54 [] w80) (
              xR Tryd.prog (sEq .eql 3 true v53_55 (.int .i64 5)) w56 fun v79_81 =>
              xIf v79_81 (
                xP Tryd.prog (sFA 63 v9_6 3) fun v83_82 =>
                xR Tryd.prog (sLoad 30 v83_82) (w56.drew) fun v84_83 =>
                xP Tryd.prog (sSlice 30 v84_83 (some (.int .i64 1)) none none) fun v85_84 =>
                xE Tryd.prog (sMakeSlice 25 (.int .i64 61) (.int .i64 61)) (w56.drew) fun v80_85 w86 =>
                xStill Tryd.prog (sLoad 30 v83_82) v84_83 w86 <|
                xE Tryd.prog (sConv 25 9 v80_85) w86 fun v81_87 w88 =>
                xStill Tryd.prog (sLoad 30 v83_82) v84_83 w88 <|
                xE Tryd.prog (sBuildSlice 30 1 #[(0, v81_87)]) w88 fun v82_89 w90 =>
                xStill Tryd.prog (sLoad 30 v83_82) v84_83 w90 <|
                xE Tryd.prog (sB .append #[30, 30] #[v82_89, v85_84]) w90 fun v86_91 w92 =>
                xP Tryd.prog (sFA 63 v11_51 3) fun v87_93 =>
                xE Tryd.prog (sStore 30 v87_93 v86_91) w92 fun _ w94 =>
                J54 [] w94) (
                xR Tryd.prog (sEq .eql 3 true v53_55 (.int .i64 6)) w56 fun v89_95 =>
                xIf v89_95 (
                  xP Tryd.prog (sFA 63 v11_51 0) fun v90_96 =>
                  xE Tryd.prog (sStore 3 v90_96 (.int .i64 (-1))) w56 fun _ w97 =>
                  J54 [] w97) (
                  J54 [] w56)))))))) fun _ _ w100 =>
  xR Tryd.prog (sLoad 63 v11_51) w100 fun v91_101 =>
  xE Tryd.prog (sCall 35 #[v91_101]) w100 fun v92_102 w103 =>
  xP Tryd.prog (sUn .not v92_102) fun v93_104 =>
  xIf v93_104 (
  xR Tryd.prog (sLoad 63 v11_51) w103 fun v95_105 =>
  xE Tryd.prog (sCall 31 #[v95_105]) w103 fun v96_106 w107 =>
  xP Tryd.prog (sB .len #[25] #[v96_106]) fun v97_108 =>
  xR Tryd.prog (sEq .eql 3 true v97_108 (.int .i64 0)) w107 fun v98_109 =>
  xIf v98_109 (
  xE Tryd.prog (sCall 11 #[]) w107 fun v101_110 w111 =>
  R (.returned v101_110) w111) (
  R (.returned (.bool false)) w107)) (
  R (.returned (.bool false)) w103)))
theorem C_stavelaw15_BatchEnds {a0 : Value} {a1 : Value} {a2 : Value} {w : World} {R : Ending → World → Prop} (h : S_stavelaw15_BatchEnds a0 a1 a2 w R) : Calls Tryd.prog 14 #[a0, a1, a2] w R :=
  funcVC_sound (an := A_stavelaw15_BatchEnds) (args := [a0, a1, a2]) (k := 3) Tryd.func14 (by kernel_rfl) rfl
    (Eq.mp (show S_stavelaw15_BatchEnds a0 a1 a2 w R = funcVC Tryd.prog Tryd.f14 A_stavelaw15_BatchEnds [a0, a1, a2] w R by kernel_rfl) h)

/-- stave/stavelaw15.BatchOnly -/
def A_stavelaw15_BatchOnly : Ann := (.seq .nil (.seq .nil (.join [9] .nil .nil)))
def S_stavelaw15_BatchOnly (a0 : Value) (a1 : Value) (a2 : Value) (a3 : Value) (w : World) (R : Ending → World → Prop) : Prop :=
  xE Tryd.prog (sBox 63 a0) w fun v4_1 w2 =>
  xE Tryd.prog (sBuildSlice 25 0 #[]) w2 fun v12_3 w4 =>
  xR Tryd.prog (sLoad 63 v4_1) w4 fun v13_5 =>
  xE Tryd.prog (sCall 34 #[v13_5]) w4 fun v14_6 w7 =>
  xE Tryd.prog (sCall 31 #[v14_6]) w7 fun v15_8 w9 =>
  xE Tryd.prog (sB .append #[25, 25] #[v12_3, v15_8]) w9 fun v16_10 w11 =>
  xJoin (fun J12 =>
    xP Tryd.prog (sB .len #[25] #[v16_10]) fun v18_13 =>
    xR Tryd.prog (sEq .eql 3 true v18_13 (.int .i64 0)) w11 fun v19_14 =>
    xIf v19_14 (
      xE Tryd.prog (sBuildSlice 25 0 #[]) w11 fun v20_15 w16 =>
      xP Tryd.prog (sB .len #[25] #[a1]) fun v23_17 =>
      xP Tryd.prog (sB .min #[3, 3] #[v23_17, (.int .i64 60)]) fun v24_18 =>
      xP Tryd.prog (sSlice 25 a1 none (some v24_18) none) fun v25_19 =>
      xE Tryd.prog (sB .append #[25, 25] #[v20_15, v25_19]) w16 fun v26_20 w21 =>
      J12 [v26_20] w21) (
      xP Tryd.prog (sB .len #[25] #[v16_10]) fun v30_22 =>
      xP Tryd.prog (sBin .sub 3 v30_22 (.int .i64 1)) fun v31_23 =>
      xE Tryd.prog (sCall 26 #[a2, (.int .i64 0), v31_23]) w11 fun v32_24 w25 =>
      xP Tryd.prog (sIA 25 v16_10 v32_24) fun v33_26 =>
      xR Tryd.prog (sLoad 5 v33_26) w25 fun v34_27 =>
      xP Tryd.prog (sBin .xor 5 v34_27 a3) fun v36_28 =>
      xP Tryd.prog (sIA 25 v16_10 v32_24) fun v37_29 =>
      xE Tryd.prog (sStore 5 v37_29 v36_28) w25 fun _ w30 =>
      J12 [v16_10] w30)) fun vs31 _ w33 =>
  xE Tryd.prog (sCall 32 #[(vs31.getD 0 undef)]) w33 fun v40_34 w35 =>
  xP Tryd.prog (sExtract v40_34 0) fun v41_36 =>
  xP Tryd.prog (sExtract v40_34 1) fun v42_37 =>
  xE Tryd.prog (sAlloc 63) w35 fun v10_38 w39 =>
  xE Tryd.prog (sStore 63 v10_38 v41_36) w39 fun _ w40 =>
  xR Tryd.prog (sEq .neq 27 true v42_37 (.nilIface)) w40 fun v44_41 =>
  xIf v44_41 (
    xR Tryd.prog (sLoad 63 v10_38) w40 fun v45_42 =>
    xP Tryd.prog (sBuild 63 #[]) fun v46_43 =>
    xE Tryd.prog (sCall 39 #[v45_42, v46_43]) w40 fun v47_44 w45 =>
    xIf v47_44 (
    xE Tryd.prog (sCall 11 #[]) w45 fun v49_46 w47 =>
    R (.returned v49_46) w47) (
    R (.returned (.bool false)) w45)) (
    xR Tryd.prog (sLoad 63 v10_38) w40 fun v51_48 =>
  xE Tryd.prog (sCall 35 #[v51_48]) w40 fun v52_49 w50 =>
  xIf v52_49 (
  xR Tryd.prog (sLoad 63 v10_38) w50 fun v54_51 =>
  xE Tryd.prog (sCall 31 #[v54_51]) w50 fun v55_52 w53 =>
  xE Tryd.prog (sCall 17 #[v55_52, (vs31.getD 0 undef)]) w53 fun v57_54 w55 =>
  xIf v57_54 (
  xE Tryd.prog (sCall 11 #[]) w55 fun v60_56 w57 =>
  R (.returned v60_56) w57) (
  R (.returned (.bool false)) w55)) (
  R (.returned (.bool false)) w50))
theorem C_stavelaw15_BatchOnly {a0 : Value} {a1 : Value} {a2 : Value} {a3 : Value} {w : World} {R : Ending → World → Prop} (h : S_stavelaw15_BatchOnly a0 a1 a2 a3 w R) : Calls Tryd.prog 15 #[a0, a1, a2, a3] w R :=
  funcVC_sound (an := A_stavelaw15_BatchOnly) (args := [a0, a1, a2, a3]) (k := 4) Tryd.func15 (by kernel_rfl) rfl
    (Eq.mp (show S_stavelaw15_BatchOnly a0 a1 a2 a3 w R = funcVC Tryd.prog Tryd.f15 A_stavelaw15_BatchOnly [a0, a1, a2, a3] w R by kernel_rfl) h)

/-- stave/gram.Put -/
def A_gram_Put : Ann := (.seq .nil (.seq .nil (.seq .nil (.seq .nil (.seq (.seq .nil (.one (.loop [7, 28] (.seq .nil (.seq .nil (.seq (.one (.seq .nil (.seq (.seq (.draw (.pre [0, 1, 2, 3, 4, 5, 6] .nil) [0, 0, 0, 6, 14, 31, 63]) .nil) (.draw (.pre [0, 1, 2, 3, 4, 5, 6, 7, 8] .nil) [0, 0, 0, 0, 12, 28, 62, 127, 255])))) .nil)))))) .nil)))))
def S_gram_Put (a0 : Value) (a1 : Value) (w : World) (R : Ending → World → Prop) : Prop :=
  xE Tryd.prog (sCall 40 #[a0]) w fun v11_1 w2 =>
  xP Tryd.prog (sBin .geq 3 v11_1 (.int .i64 0)) fun v13_3 =>
  xIf v13_3 (
    xP Tryd.prog (sIface 39 (.int .i64 1)) fun v15_4 =>
    xE Tryd.prog (sCall 41 #[(.string (ByteArray.mk #[103, 114, 97, 109, 46, 80, 117, 116])), v11_1, v15_4]) w2 fun v16_5 w6 =>
    R (.returned (.tuple #[(.slice none 0 0), v16_5])) w6) (
    xP Tryd.prog (sB .len #[33] #[a1]) fun v18_7 =>
  xP Tryd.prog (sB .len #[24] #[a0]) fun v20_8 =>
  xR Tryd.prog (sEq .neq 3 false v18_7 v20_8) w2 fun v21_9 =>
  xIf v21_9 (
    xP Tryd.prog (sB .len #[33] #[a1]) fun v23_10 =>
    xP Tryd.prog (sIface 39 (.int .i64 1)) fun v24_11 =>
    xE Tryd.prog (sCall 41 #[(.string (ByteArray.mk #[103, 114, 97, 109, 46, 80, 117, 116])), v23_10, v24_11]) w2 fun v25_12 w13 =>
    R (.returned (.tuple #[(.slice none 0 0), v25_12])) w13) (
    xP Tryd.prog (sB .len #[24] #[a0]) fun v27_14 =>
  xLoop [(.slice none 0 0), (.int .i64 0)] w2 fun J15 vs16 _ w18 =>
    xP Tryd.prog (sBin .lss 3 (vs16.getD 1 undef) v27_14) fun v29_19 =>
    xIf v29_19 (
      xP Tryd.prog (sIA 24 a0 (vs16.getD 1 undef)) fun v31_20 =>
    xR Tryd.prog (sLoad 23 v31_20) w18 fun v32_21 =>
    xE Tryd.prog (sAlloc 23) w18 fun v9_22 w23 =>
    xE Tryd.prog (sStore 23 v9_22 v32_21) w23 fun _ w24 =>
    xR Tryd.prog (sLoad 23 v9_22) (w24.drew) fun v33_25 =>
    xP Tryd.prog (sIA 33 a1 (vs16.getD 1 undef)) fun v36_26 =>
    xR Tryd.prog (sLoad 32 v36_26) (w24.drew) fun v37_27 =>
    xE Tryd.prog (sCall 42 #[v33_25, v37_27]) (w24.drew) fun v38_28 w29 =>
    xP Tryd.prog (sUn .not v38_28) fun v39_30 =>
    xIf v39_30 (
      xP Tryd.prog (sIface 39 (.int .i64 2)) fun v41_31 =>
      xE Tryd.prog (sCall 41 #[(.string (ByteArray.mk #[103, 114, 97, 109, 46, 80, 117, 116])), (vs16.getD 1 undef), v41_31]) w29 fun v42_32 w33 =>
      R (.returned (.tuple #[(.slice none 0 0), v42_32])) w33) (
      xR Tryd.prog (sLoad 23 v9_22) (w29.drew) fun v44_34 =>
    xP Tryd.prog (sIA 33 a1 (vs16.getD 1 undef)) fun v47_35 =>
    xR Tryd.prog (sLoad 32 v47_35) (w29.drew) fun v48_36 =>
    xE Tryd.prog (sCall 43 #[v44_34, v48_36]) (w29.drew) fun v49_37 w38 =>
    xE Tryd.prog (sB .append #[25, 25] #[(vs16.getD 0 undef), v49_37]) w38 fun v50_39 w40 =>
    xP Tryd.prog (sBin .add 3 (vs16.getD 1 undef) (.int .i64 1)) fun v51_41 =>
    J15 [v50_39, v51_41] w40)) (
      R (.returned (.tuple #[(vs16.getD 0 undef), (.nilIface)])) w18)))
theorem C_gram_Put {a0 : Value} {a1 : Value} {w : World} {R : Ending → World → Prop} (h : S_gram_Put a0 a1 w R) : Calls Tryd.prog 16 #[a0, a1] w R :=
  funcVC_sound (an := A_gram_Put) (args := [a0, a1]) (k := 2) Tryd.func16 (by kernel_rfl) rfl
    (Eq.mp (show S_gram_Put a0 a1 w R = funcVC Tryd.prog Tryd.f16 A_gram_Put [a0, a1] w R by kernel_rfl) h)

/-- stave/stavebook.Same[byte] -/
def A_stavebook_Same_byte : Ann := (.seq .nil (.seq .nil (.seq (.seq .nil (.one (.loop [5] (.seq .nil (.seq (.one (.seq (.draw (.pre [0, 1, 2, 3, 4, 5, 6, 7, 8] .nil) [0, 0, 3, 7, 0, 0, 48, 112, 255]) .nil)) .nil))))) .nil)))
def S_stavebook_Same_byte (a0 : Value) (a1 : Value) (w : World) (R : Ending → World → Prop) : Prop :=
  xP Tryd.prog (sB .len #[25] #[a0]) fun v7_1 =>
  xP Tryd.prog (sB .len #[25] #[a1]) fun v9_2 =>
  xR Tryd.prog (sEq .neq 3 false v7_1 v9_2) w fun v10_3 =>
  xIf v10_3 (
    R (.returned (.bool false)) w) (
    xLoop [(.int .i64 0)] w fun J4 vs5 _ w7 =>
    xP Tryd.prog (sB .len #[25] #[a0]) fun v13_8 =>
    xP Tryd.prog (sBin .lss 3 (vs5.getD 0 undef) v13_8) fun v14_9 =>
    xIf v14_9 (
      xP Tryd.prog (sIA 25 a0 (vs5.getD 0 undef)) fun v19_10 =>
    xR Tryd.prog (sLoad 5 v19_10) (w7.drew) fun v20_11 =>
    xP Tryd.prog (sIA 25 a1 (vs5.getD 0 undef)) fun v23_12 =>
    xR Tryd.prog (sLoad 5 v23_12) (w7.drew) fun v24_13 =>
    xR Tryd.prog (sEq .neq 5 false v20_11 v24_13) (w7.drew) fun v25_14 =>
    xIf v25_14 (
      R (.returned (.bool false)) (w7.drew)) (
      xP Tryd.prog (sBin .add 3 (vs5.getD 0 undef) (.int .i64 1)) fun v16_15 =>
    J4 [v16_15] (w7.drew))) (
      R (.returned (.bool true)) w7))
theorem C_stavebook_Same_byte {a0 : Value} {a1 : Value} {w : World} {R : Ending → World → Prop} (h : S_stavebook_Same_byte a0 a1 w R) : Calls Tryd.prog 17 #[a0, a1] w R :=
  funcVC_sound (an := A_stavebook_Same_byte) (args := [a0, a1]) (k := 2) Tryd.func17 (by kernel_rfl) rfl
    (Eq.mp (show S_stavebook_Same_byte a0 a1 w R = funcVC Tryd.prog Tryd.f17 A_stavebook_Same_byte [a0, a1] w R by kernel_rfl) h)

/-- stave/gram.Get -/
def A_gram_Get : Ann := (.seq .nil (.seq .nil (.seq .nil (.seq .nil (.seq (.seq .nil (.one (.loop [8, 25] .nil))) .nil)))))
def S_gram_Get (a0 : Value) (a1 : Value) (w : World) (R : Ending → World → Prop) : Prop :=
  xE Tryd.prog (sCall 40 #[a0]) w fun v14_1 w2 =>
  xP Tryd.prog (sBin .geq 3 v14_1 (.int .i64 0)) fun v16_3 =>
  xIf v16_3 (
    xP Tryd.prog (sIface 39 (.int .i64 1)) fun v18_4 =>
    xE Tryd.prog (sCall 41 #[(.string (ByteArray.mk #[103, 114, 97, 109, 46, 71, 101, 116])), v14_1, v18_4]) w2 fun v19_5 w6 =>
    R (.returned (.tuple #[(.slice none 0 0), v19_5])) w6) (
    xP Tryd.prog (sBuild 80 #[(0, a1)]) fun v21_7 =>
  xE Tryd.prog (sBox 80 v21_7) w2 fun v22_8 w9 =>
  xP Tryd.prog (sB .len #[24] #[a0]) fun v24_10 =>
  xLoop [(.slice none 0 0), (.int .i64 0)] w9 fun J11 vs12 _ w14 =>
    xP Tryd.prog (sBin .lss 3 (vs12.getD 1 undef) v24_10) fun v26_15 =>
    xIf v26_15 (
      xP Tryd.prog (sIA 24 a0 (vs12.getD 1 undef)) fun v27_16 =>
    xR Tryd.prog (sLoad 23 v27_16) w14 fun v28_17 =>
    xE Tryd.prog (sAlloc 23) w14 fun v10_18 w19 =>
    xE Tryd.prog (sStore 23 v10_18 v28_17) w19 fun _ w20 =>
    xP Tryd.prog (sNil v22_8) fun v30_21 =>
    xP Tryd.prog (sFA 80 v30_21 1) fun v31_22 =>
    xR Tryd.prog (sLoad 3 v31_22) w20 fun v32_23 =>
    xR Tryd.prog (sLoad 23 v10_18) w20 fun v34_24 =>
    xE Tryd.prog (sCall 44 #[v22_8, v34_24]) w20 fun v35_25 w26 =>
    xE Tryd.prog (sAlloc 32) w26 fun v12_27 w28 =>
    xE Tryd.prog (sStore 32 v12_27 v35_25) w28 fun _ w29 =>
    xP Tryd.prog (sNil v22_8) fun v37_30 =>
    xP Tryd.prog (sFA 80 v37_30 2) fun v38_31 =>
    xR Tryd.prog (sLoad 39 v38_31) w29 fun v39_32 =>
    xR Tryd.prog (sEq .neq 39 true v39_32 (.int .i64 0)) w29 fun v40_33 =>
    xIf v40_33 (
      xP Tryd.prog (sNil v22_8) fun v43_34 =>
      xP Tryd.prog (sFA 80 v43_34 2) fun v44_35 =>
      xR Tryd.prog (sLoad 39 v44_35) w29 fun v45_36 =>
      xP Tryd.prog (sIface 39 v45_36) fun v46_37 =>
      xE Tryd.prog (sCall 41 #[(.string (ByteArray.mk #[103, 114, 97, 109, 46, 71, 101, 116])), v32_23, v46_37]) w29 fun v47_38 w39 =>
      R (.returned (.tuple #[(.slice none 0 0), v47_38])) w39) (
      xR Tryd.prog (sLoad 32 v12_27) w29 fun v49_40 =>
    xE Tryd.prog (sBuildSlice 33 1 #[(0, v49_40)]) w29 fun v50_41 w42 =>
    xE Tryd.prog (sB .append #[33, 33] #[(vs12.getD 0 undef), v50_41]) w42 fun v51_43 w44 =>
    xP Tryd.prog (sBin .add 3 (vs12.getD 1 undef) (.int .i64 1)) fun v52_45 =>
    J11 [v51_43, v52_45] w44)) (
      xP Tryd.prog (sNil v22_8) fun v54_46 =>
  xP Tryd.prog (sFA 80 v54_46 1) fun v55_47 =>
  xR Tryd.prog (sLoad 3 v55_47) w14 fun v56_48 =>
  xP Tryd.prog (sB .len #[25] #[a1]) fun v58_49 =>
  xP Tryd.prog (sBin .lss 3 v56_48 v58_49) fun v59_50 =>
  xIf v59_50 (
    xP Tryd.prog (sNil v22_8) fun v61_51 =>
    xP Tryd.prog (sFA 80 v61_51 1) fun v62_52 =>
    xR Tryd.prog (sLoad 3 v62_52) w14 fun v63_53 =>
    xP Tryd.prog (sIface 39 (.int .i64 4)) fun v64_54 =>
    xE Tryd.prog (sCall 41 #[(.string (ByteArray.mk #[103, 114, 97, 109, 46, 71, 101, 116])), v63_53, v64_54]) w14 fun v65_55 w56 =>
    R (.returned (.tuple #[(.slice none 0 0), v65_55])) w56) (
    R (.returned (.tuple #[(vs12.getD 0 undef), (.nilIface)])) w14)))
theorem C_gram_Get {a0 : Value} {a1 : Value} {w : World} {R : Ending → World → Prop} (h : S_gram_Get a0 a1 w R) : Calls Tryd.prog 18 #[a0, a1] w R :=
  funcVC_sound (an := A_gram_Get) (args := [a0, a1]) (k := 2) Tryd.func18 (by kernel_rfl) rfl
    (Eq.mp (show S_gram_Get a0 a1 w R = funcVC Tryd.prog Tryd.f18 A_gram_Get [a0, a1] w R by kernel_rfl) h)

/-- stave/fault.Where -/
def A_fault_Where : Ann := (.seq .nil (.seq .nil (.seq .nil (.seq .nil (.seq (.draw (.pre [0, 1, 2, 3, 4, 5, 6] .nil) [0, 1, 0, 4, 3, 31, 63]) .nil)))))
def S_fault_Where (a0 : Value) (w : World) (R : Ending → World → Prop) : Prop :=
  xE Tryd.prog (sCall 45 #[a0]) w fun v8_1 w2 =>
  xP Tryd.prog (sB .len #[82] #[v8_1]) fun v10_3 =>
  xR Tryd.prog (sEq .eql 3 true v10_3 (.int .i64 0)) w2 fun v11_4 =>
  xIf v11_4 (
    R (.returned (.tuple #[(.string (ByteArray.mk #[])), (.int .i64 0), (.bool false)])) w2) (
    xP Tryd.prog (sB .len #[82] #[v8_1]) fun v14_5 =>
  xP Tryd.prog (sBin .sub 3 v14_5 (.int .i64 1)) fun v15_6 =>
  xP Tryd.prog (sIA 82 v8_1 v15_6) fun v16_7 =>
  xR Tryd.prog (sLoad 85 v16_7) w2 fun v17_8 =>
  xE Tryd.prog (sAlloc 85) w2 fun v6_9 w10 =>
  xE Tryd.prog (sStore 85 v6_9 v17_8) w10 fun _ w11 =>
  xP Tryd.prog (sFA 85 v6_9 0) fun v18_12 =>
  xR Tryd.prog (sLoad 9 v18_12) (w11.drew) fun v19_13 =>
  xP Tryd.prog (sFA 85 v6_9 1) fun v20_14 =>
  xR Tryd.prog (sLoad 3 v20_14) (w11.drew) fun v21_15 =>
  R (.returned (.tuple #[v19_13, v21_15, (.bool true)])) (w11.drew))
theorem C_fault_Where {a0 : Value} {w : World} {R : Ending → World → Prop} (h : S_fault_Where a0 w R) : Calls Tryd.prog 19 #[a0] w R :=
  funcVC_sound (an := A_fault_Where) (args := [a0]) (k := 1) Tryd.func19 (by kernel_rfl) rfl
    (Eq.mp (show S_fault_Where a0 w R = funcVC Tryd.prog Tryd.f19 A_fault_Where [a0] w R by kernel_rfl) h)

/-- stave/fault.Kind -/
def A_fault_Kind : Ann := .nil
def S_fault_Kind (a0 : Value) (w : World) (R : Ending → World → Prop) : Prop :=
  xE Tryd.prog (sAlloc 39) w fun v3_1 w2 =>
  xP Tryd.prog (sIface 87 v3_1) fun v6_3 =>
  xE Tryd.prog (sCall 46 #[a0, v6_3]) w2 fun v7_4 w5 =>
  xIf v7_4 (
    xR Tryd.prog (sLoad 39 v3_1) w5 fun v8_6 =>
    R (.returned v8_6) w5) (
    xP Tryd.prog (sIface 39 (.int .i64 6)) fun v11_7 =>
    xE Tryd.prog (sCall 47 #[a0, v11_7]) w5 fun v12_8 w9 =>
    xIf v12_8 (
      R (.returned (.int .i64 6)) w9) (
      R (.returned (.int .i64 0)) w9))
theorem C_fault_Kind {a0 : Value} {w : World} {R : Ending → World → Prop} (h : S_fault_Kind a0 w R) : Calls Tryd.prog 20 #[a0] w R :=
  funcVC_sound (an := A_fault_Kind) (args := [a0]) (k := 1) Tryd.func20 (by kernel_rfl) rfl
    (Eq.mp (show S_fault_Kind a0 w R = funcVC Tryd.prog Tryd.f20 A_fault_Kind [a0] w R by kernel_rfl) h)

/-- stave/gram.Least -/
def A_gram_Least : Ann := (.seq .nil (.seq .nil (.seq .nil (.seq (.seq .nil (.one (.loop [3, 11] (.seq .nil (.seq .nil (.join [3] .nil .nil)))))) .nil))))
def S_gram_Least (a0 : Value) (w : World) (R : Ending → World → Prop) : Prop :=
  xE Tryd.prog (sCall 40 #[a0]) w fun v7_1 w2 =>
  xP Tryd.prog (sBin .geq 3 v7_1 (.int .i64 0)) fun v8_3 =>
  xIf v8_3 (
    R (.returned (.int .i64 0)) w2) (
    xP Tryd.prog (sB .len #[24] #[a0]) fun v10_4 =>
  xLoop [(.int .i64 0), (.int .i64 0)] w2 fun J5 vs6 _ w8 =>
    xP Tryd.prog (sBin .lss 3 (vs6.getD 1 undef) v10_4) fun v12_9 =>
    xIf v12_9 (
      xJoin (fun J10 =>
      xP Tryd.prog (sIA 24 a0 (vs6.getD 1 undef)) fun v13_11 =>
      xR Tryd.prog (sLoad 23 v13_11) w8 fun v14_12 =>
      xE Tryd.prog (sAlloc 23) w8 fun v5_13 w14 =>
      xE Tryd.prog (sStore 23 v5_13 v14_12) w14 fun _ w15 =>
      xP Tryd.prog (sFA 23 v5_13 0) fun v15_16 =>
      xR Tryd.prog (sLoad 3 v15_16) w15 fun v16_17 =>
      xR Tryd.prog (sEq .eql 3 true v16_17 (.int .i64 1)) w15 fun v18_18 =>
      xIf v18_18 (
        xP Tryd.prog (sFA 23 v5_13 1) fun v20_19 =>
        xR Tryd.prog (sLoad 3 v20_19) w15 fun v21_20 =>
        xP Tryd.prog (sBin .add 3 (vs6.getD 0 undef) v21_20) fun v22_21 =>
        J10 [v22_21] w15) (
        xR Tryd.prog (sEq .eql 3 true v16_17 (.int .i64 2)) w15 fun v24_22 =>
        xIf v24_22 (
          xP Tryd.prog (sFA 23 v5_13 2) fun v26_23 =>
          xR Tryd.prog (sLoad 3 v26_23) w15 fun v27_24 =>
          xP Tryd.prog (sBin .add 3 (.int .i64 2) v27_24) fun v28_25 =>
          xP Tryd.prog (sBin .add 3 (vs6.getD 0 undef) v28_25) fun v29_26 =>
          J10 [v29_26] w15) (
          xR Tryd.prog (sEq .eql 3 true v16_17 (.int .i64 3)) w15 fun v31_27 =>
          xIf v31_27 (
            xP Tryd.prog (sFA 23 v5_13 2) fun v33_28 =>
            xR Tryd.prog (sLoad 3 v33_28) w15 fun v34_29 =>
            xP Tryd.prog (sBin .mul 3 (.int .i64 2) v34_29) fun v35_30 =>
            xP Tryd.prog (sBin .add 3 (.int .i64 1) v35_30) fun v36_31 =>
            xP Tryd.prog (sBin .add 3 (vs6.getD 0 undef) v36_31) fun v37_32 =>
            J10 [v37_32] w15) (
            J10 [(vs6.getD 0 undef)] w15)))) fun vs33 _ w35 =>
    xP Tryd.prog (sBin .add 3 (vs6.getD 1 undef) (.int .i64 1)) fun v38_36 =>
    J5 [(vs33.getD 0 undef), v38_36] w35) (
      R (.returned (vs6.getD 0 undef)) w8))
theorem C_gram_Least {a0 : Value} {w : World} {R : Ending → World → Prop} (h : S_gram_Least a0 w R) : Calls Tryd.prog 21 #[a0] w R :=
  funcVC_sound (an := A_gram_Least) (args := [a0]) (k := 1) Tryd.func21 (by kernel_rfl) rfl
    (Eq.mp (show S_gram_Least a0 w R = funcVC Tryd.prog Tryd.f21 A_gram_Least [a0] w R by kernel_rfl) h)

/-- stave/stavelaw2.few -/
def A_stavelaw2_few : Ann := (.seq .nil (.seq .nil (.seq (.seq .nil (.one (.loop [6, 7] (.seq (.join [17] .nil .nil) (.seq (.one (.seq (.draw (.pre [0, 1, 2, 3, 4, 5, 6, 7, 8, 9, 10, 11, 12, 13, 14, 15, 16, 17, 18, 19, 20] .nil) [0, 0, 3, 7, 15, 0, 0, 96, 224, 480, 0, 0, 3072, 7168, 15360, 31744, 64512, 131040, 262143, 0, 1048575]) (.seq (.seq .nil (.one (.loop [9] (.seq (.join [50] .nil .nil) (.seq (.one (.draw (.pre [0, 1, 2, 3, 4, 5, 6, 7, 8, 9, 10, 11, 12, 13, 14, 15, 16, 17, 18, 19, 20, 21, 22, 23, 24] .nil) [0, 1, 0, 0, 12, 28, 60, 0, 252, 508, 0, 0, 3072, 7168, 15360, 0, 64512, 130048, 261120, 523264, 1048572, 2097148, 4194303, 8388607, 16777215])) .nil))))) .nil))) .nil))))) .nil)))
def S_stavelaw2_few (a0 : Value) (a1 : Value) (w : World) (R : Ending → World → Prop) : Prop :=
  xLoop [(.slice none 0 0), (.int .i64 0)] w fun J1 vs2 _ w4 =>
    xJoin (fun J5 =>
      xP Tryd.prog (sB .len #[33] #[a1]) fun v12_6 =>
      xP Tryd.prog (sBin .lss 3 (vs2.getD 1 undef) v12_6) fun v13_7 =>
      xIf v13_7 (
      xP Tryd.prog (sBin .lss 3 (vs2.getD 1 undef) (.int .i64 6)) fun v16_8 =>
      J5 [v16_8] w4) (
      J5 [(.bool false)] w4)) fun vs9 _ w11 =>
    xIf (vs9.getD 0 undef) (
      xP Tryd.prog (sIA 33 a1 (vs2.getD 1 undef)) fun v22_12 =>
    xP Tryd.prog (sFA 32 v22_12 0) fun v23_13 =>
    xR Tryd.prog (sLoad 3 v23_13) (w11.drew) fun v24_14 =>
    xP Tryd.prog (sIA 33 a1 (vs2.getD 1 undef)) fun v27_15 =>
    xP Tryd.prog (sFA 32 v27_15 1) fun v28_16 =>
    xR Tryd.prog (sLoad 9 v28_16) (w11.drew) fun v29_17 =>
    xP Tryd.prog (sIA 33 a1 (vs2.getD 1 undef)) fun v32_18 =>
    xP Tryd.prog (sFA 32 v32_18 1) fun v33_19 =>
    xR Tryd.prog (sLoad 9 v33_19) (w11.drew) fun v34_20 =>
    xP Tryd.prog (sB .len #[9] #[v34_20]) fun v35_21 =>
    xP Tryd.prog (sB .min #[3, 3] #[v35_21, (.int .i64 40)]) fun v36_22 =>
    xP Tryd.prog (sSlice 9 v29_17 none (some v36_22) none) fun v37_23 =>
    xP Tryd.prog (sBuild 32 #[(0, v24_14), (1, v37_23)]) fun v38_24 =>
    xE Tryd.prog (sAlloc 32) (w11.drew) fun v8_25 w26 =>
    xStill Tryd.prog (sLoad 9 v33_19) v34_20 w26 <|
    xStill Tryd.prog (sLoad 9 v28_16) v29_17 w26 <|
    xStill Tryd.prog (sLoad 3 v23_13) v24_14 w26 <|
    xE Tryd.prog (sStore 32 v8_25 v38_24) w26 fun _ w27 =>
    xLoop [(.int .i64 0)] w27 fun J28 vs29 _ w31 =>
      xJoin (fun J32 =>
        xP Tryd.prog (sIA 33 a1 (vs2.getD 1 undef)) fun v42_33 =>
        xP Tryd.prog (sFA 32 v42_33 2) fun v43_34 =>
        xR Tryd.prog (sLoad 30 v43_34) w31 fun v44_35 =>
        xP Tryd.prog (sB .len #[30] #[v44_35]) fun v45_36 =>
        xP Tryd.prog (sBin .lss 3 (vs29.getD 0 undef) v45_36) fun v46_37 =>
        xIf v46_37 (
        xP Tryd.prog (sBin .lss 3 (vs29.getD 0 undef) (.int .i64 4)) fun v49_38 =>
        J32 [v49_38] w31) (
        J32 [(.bool false)] w31)) fun vs39 _ w41 =>
      xIf (vs39.getD 0 undef) (
        xP Tryd.prog (sFA 32 v8_25 2) fun v53_42 =>
      xR Tryd.prog (sLoad 30 v53_42) (w41.drew) fun v54_43 =>
      xP Tryd.prog (sIA 33 a1 (vs2.getD 1 undef)) fun v57_44 =>
      xP Tryd.prog (sFA 32 v57_44 2) fun v58_45 =>
      xR Tryd.prog (sLoad 30 v58_45) (w41.drew) fun v59_46 =>
      xP Tryd.prog (sIA 30 v59_46 (vs29.getD 0 undef)) fun v61_47 =>
      xR Tryd.prog (sLoad 9 v61_47) (w41.drew) fun v62_48 =>
      xP Tryd.prog (sIA 33 a1 (vs2.getD 1 undef)) fun v65_49 =>
      xP Tryd.prog (sFA 32 v65_49 2) fun v66_50 =>
      xR Tryd.prog (sLoad 30 v66_50) (w41.drew) fun v67_51 =>
      xP Tryd.prog (sIA 30 v67_51 (vs29.getD 0 undef)) fun v69_52 =>
      xR Tryd.prog (sLoad 9 v69_52) (w41.drew) fun v70_53 =>
      xP Tryd.prog (sB .len #[9] #[v70_53]) fun v71_54 =>
      xP Tryd.prog (sB .min #[3, 3] #[v71_54, (.int .i64 20)]) fun v72_55 =>
      xP Tryd.prog (sSlice 9 v62_48 none (some v72_55) none) fun v73_56 =>
      xE Tryd.prog (sBuildSlice 30 1 #[(0, v73_56)]) (w41.drew) fun v74_57 w58 =>
      xStill Tryd.prog (sLoad 30 v53_42) v54_43 w58 <|
      xE Tryd.prog (sB .append #[30, 30] #[v54_43, v74_57]) w58 fun v75_59 w60 =>
      xP Tryd.prog (sFA 32 v8_25 2) fun v76_61 =>
      xE Tryd.prog (sStore 30 v76_61 v75_59) w60 fun _ w62 =>
      xP Tryd.prog (sBin .add 3 (vs29.getD 0 undef) (.int .i64 1)) fun v52_63 =>
      J28 [v52_63] w62) (
        xR Tryd.prog (sLoad 32 v8_25) w41 fun v78_64 =>
    xE Tryd.prog (sBuildSlice 33 1 #[(0, v78_64)]) w41 fun v79_65 w66 =>
    xE Tryd.prog (sB .append #[33, 33] #[(vs2.getD 0 undef), v79_65]) w66 fun v80_67 w68 =>
    xP Tryd.prog (sBin .add 3 (vs2.getD 1 undef) (.int .i64 1)) fun v19_69 =>
    J1 [v80_67, v19_69] w68)) (
      xE Tryd.prog (sBuildSlice 24 0 #[]) w11 fun v81_70 w71 =>
  xP Tryd.prog (sB .len #[24] #[a0]) fun v84_72 =>
  xP Tryd.prog (sB .min #[3, 3] #[v84_72, (.int .i64 6)]) fun v85_73 =>
  xP Tryd.prog (sSlice 24 a0 none (some v85_73) none) fun v86_74 =>
  xE Tryd.prog (sB .append #[24, 24] #[v81_70, v86_74]) w71 fun v87_75 w76 =>
  R (.returned (.tuple #[v87_75, (vs2.getD 0 undef)])) w76)
theorem C_stavelaw2_few {a0 : Value} {a1 : Value} {w : World} {R : Ending → World → Prop} (h : S_stavelaw2_few a0 a1 w R) : Calls Tryd.prog 22 #[a0, a1] w R :=
  funcVC_sound (an := A_stavelaw2_few) (args := [a0, a1]) (k := 2) Tryd.func22 (by kernel_rfl) rfl
    (Eq.mp (show S_stavelaw2_few a0 a1 w R = funcVC Tryd.prog Tryd.f22 A_stavelaw2_few [a0, a1] w R by kernel_rfl) h)

/-- stave/gram.Right -/
def A_gram_Right : Ann := (.seq .nil (.seq (.join [13] .nil .nil) (.seq (.seq .nil (.one (.join [] (.one (.seq (.one (.seq .nil (.seq (.join [3] .nil .nil) .nil))) (.seq (.join [59] .nil .nil) .nil))) .nil))) .nil)))
def S_gram_Right (a0 : Value) (w : World) (R : Ending → World → Prop) : Prop :=
  xE Tryd.prog (sBox 23 a0) w fun v1_1 w2 =>
  xJoin (fun J3 =>
    xP Tryd.prog (sFA 23 v1_1 2) fun v4_4 =>
    xR Tryd.prog (sLoad 3 v4_4) w2 fun v5_5 =>
    xP Tryd.prog (sBin .lss 3 v5_5 (.int .i64 0)) fun v6_6 =>
    xIf v6_6 (
    J3 [(.bool true)] w2) (
    xP Tryd.prog (sFA 23 v1_1 2) fun v8_7 =>
    xR Tryd.prog (sLoad 3 v8_7) w2 fun v9_8 =>
    xP Tryd.prog (sFA 23 v1_1 3) fun v10_9 =>
    xR Tryd.prog (sLoad 3 v10_9) w2 fun v11_10 =>
    xP Tryd.prog (sBin .gtr 3 v9_8 v11_10) fun v12_11 =>
    J3 [v12_11] w2)) fun vs12 _ w14 =>
  xIf (vs12.getD 0 undef) (
    R (.returned (.bool false)) w14) (
    xP Tryd.prog (sFA 23 v1_1 0) fun v14_15 =>
  xR Tryd.prog (sLoad 3 v14_15) w14 fun v15_16 =>
  xJoin (fun J17 =>
    xR Tryd.prog (sEq .eql 3 true v15_16 (.int .i64 1)) w14 fun v17_18 =>
    xIf v17_18 (
      xJoin (fun J19 =>
      xE Tryd.prog (sBuildSlice 58 3 #[(0, (.int .i64 1)), (1, (.int .i64 2)), (2, (.int .i64 4))]) w14 fun v22_20 w21 =>
      xP Tryd.prog (sFA 23 v1_1 1) fun v23_22 =>
      xR Tryd.prog (sLoad 3 v23_22) w21 fun v24_23 =>
      xE Tryd.prog (sCall 48 #[v22_20, v24_23]) w21 fun v25_24 w25 =>
      xIf v25_24 (
      xP Tryd.prog (sFA 23 v1_1 3) fun v27_26 =>
      xR Tryd.prog (sLoad 3 v27_26) w25 fun v28_27 =>
      xP Tryd.prog (sFA 23 v1_1 1) fun v29_28 =>
      xR Tryd.prog (sLoad 3 v29_28) w25 fun v30_29 =>
      xP Tryd.prog (sBin .mul 3 (.int .i64 8) v30_29) fun v31_30 =>
      xP Tryd.prog (sConv 3 90 v31_30) fun v32_31 =>
      xP Tryd.prog (sBin .shr 3 v28_27 v32_31) fun v33_32 =>
      xR Tryd.prog (sEq .eql 3 true v33_32 (.int .i64 0)) w25 fun v34_33 =>
      J19 [v34_33] w25) (
      J19 [(.bool false)] w25)) fun vs34 _ w36 =>
    xP Tryd.prog (sFA 23 v1_1 4) fun v36_37 =>
    xR Tryd.prog (sLoad 3 v36_37) w36 fun v37_38 =>
    xR Tryd.prog (sEq .eql 3 true v37_38 (.int .i64 0)) w36 fun v38_39 =>
    xIf v38_39 (
    xIf (vs34.getD 0 undef) (
    R (.returned (.bool true)) w36) (
    xP Tryd.prog (sFA 23 v1_1 1) fun v42_40 =>
    xR Tryd.prog (sLoad 3 v42_40) w36 fun v43_41 =>
    xR Tryd.prog (sEq .eql 3 true v43_41 (.int .i64 8)) w36 fun v44_42 =>
    R (.returned v44_42) w36)) (
    R (.returned (.bool false)) w36)) (
      xR Tryd.prog (sEq .eql 3 true v15_16 (.int .i64 3)) w14 fun v19_43 =>
    xIf v19_43 (
      xJoin (fun J44 =>
      xP Tryd.prog (sFA 23 v1_1 3) fun v47_45 =>
      xR Tryd.prog (sLoad 3 v47_45) w14 fun v48_46 =>
      xP Tryd.prog (sBin .gtr 3 v48_46 (.int .i64 255)) fun v49_47 =>
      xIf v49_47 (
      J44 [(.bool true)] w14) (
      xP Tryd.prog (sFA 23 v1_1 4) fun v51_48 =>
      xR Tryd.prog (sLoad 3 v51_48) w14 fun v52_49 =>
      xP Tryd.prog (sBin .lss 3 v52_49 (.int .i64 0)) fun v53_50 =>
      xIf v53_50 (
      J44 [(.bool true)] w14) (
      xP Tryd.prog (sFA 23 v1_1 4) fun v56_51 =>
      xR Tryd.prog (sLoad 3 v56_51) w14 fun v57_52 =>
      xP Tryd.prog (sBin .gtr 3 v57_52 (.int .i64 65535)) fun v58_53 =>
      J44 [v58_53] w14))) fun vs54 _ w56 =>
    xIf (vs54.getD 0 undef) (
      R (.returned (.bool false)) w56) (
      xP Tryd.prog (sFA 23 v1_1 4) fun v60_57 =>
    xE Tryd.prog (sStore 3 v60_57 (.int .i64 0)) w56 fun _ w58 =>
    J17 [] w58)) (
      xR Tryd.prog (sEq .eql 3 true v15_16 (.int .i64 2)) w14 fun v21_59 =>
    xIf v21_59 (
      J17 [] w14) (
      R (.returned (.bool false)) w14)))) fun _ _ w62 =>
  xP Tryd.prog (sFA 23 v1_1 1) fun v61_63 =>
  xR Tryd.prog (sLoad 3 v61_63) w62 fun v62_64 =>
  xR Tryd.prog (sEq .eql 3 true v62_64 (.int .i64 0)) w62 fun v63_65 =>
  xIf v63_65 (
  xP Tryd.prog (sFA 23 v1_1 4) fun v65_66 =>
  xR Tryd.prog (sLoad 3 v65_66) w62 fun v66_67 =>
  xR Tryd.prog (sEq .eql 3 true v66_67 (.int .i64 0)) w62 fun v67_68 =>
  xIf v67_68 (
  xP Tryd.prog (sFA 23 v1_1 3) fun v70_69 =>
  xR Tryd.prog (sLoad 3 v70_69) w62 fun v71_70 =>
  xP Tryd.prog (sBin .leq 3 v71_70 (.int .i64 65535)) fun v72_71 =>
  R (.returned v72_71) w62) (
  R (.returned (.bool false)) w62)) (
  R (.returned (.bool false)) w62))
theorem C_gram_Right {a0 : Value} {w : World} {R : Ending → World → Prop} (h : S_gram_Right a0 w R) : Calls Tryd.prog 23 #[a0] w R :=
  funcVC_sound (an := A_gram_Right) (args := [a0]) (k := 1) Tryd.func23 (by kernel_rfl) rfl
    (Eq.mp (show S_gram_Right a0 w R = funcVC Tryd.prog Tryd.f23 A_gram_Right [a0] w R by kernel_rfl) h)

/-- stave/staveref1.RightField -/
def A_staveref1_RightField : Ann := (.seq .nil (.seq (.join [12] .nil .nil) (.seq (.seq .nil (.one (.seq .nil (.seq (.seq (.draw (.pre [0, 1, 2, 3, 4, 5, 6, 7, 8, 9, 10, 11, 12, 13, 14, 15, 16, 17, 18, 19, 20, 21, 22, 23, 24, 25, 26, 27, 28, 29, 30, 31, 32] .nil) [0, 1, 3, 7, 15, 31, 63, 127, 255, 511, 1023, 2047, 4095, 8191, 16383, 32767, 65535, 131071, 262143, 524287, 1048575, 2097151, 4194303, 8388607, 4194303, 20971519, 54525951, 121634815, 268435455, 536870911, 1073741823, 2147483647, 4294967295]) .nil) .nil)))) .nil)))
def S_staveref1_RightField (a0 : Value) (w : World) (R : Ending → World → Prop) : Prop :=
  xE Tryd.prog (sBox 23 a0) w fun v1_1 w2 =>
  xJoin (fun J3 =>
    xP Tryd.prog (sFA 23 v1_1 2) fun v3_4 =>
    xR Tryd.prog (sLoad 3 v3_4) w2 fun v4_5 =>
    xP Tryd.prog (sBin .lss 3 v4_5 (.int .i64 0)) fun v5_6 =>
    xIf v5_6 (
    J3 [(.bool true)] w2) (
    xP Tryd.prog (sFA 23 v1_1 2) fun v7_7 =>
    xR Tryd.prog (sLoad 3 v7_7) w2 fun v8_8 =>
    xP Tryd.prog (sFA 23 v1_1 3) fun v9_9 =>
    xR Tryd.prog (sLoad 3 v9_9) w2 fun v10_10 =>
    xP Tryd.prog (sBin .gtr 3 v8_8 v10_10) fun v11_11 =>
    J3 [v11_11] w2)) fun vs12 _ w14 =>
  xIf (vs12.getD 0 undef) (
    R (.returned (.bool false)) w14) (
    xP Tryd.prog (sFA 23 v1_1 0) fun v13_15 =>
  xR Tryd.prog (sLoad 3 v13_15) w14 fun v14_16 =>
  xR Tryd.prog (sEq .eql 3 true v14_16 (.int .i64 1)) w14 fun v16_17 =>
  xIf v16_17 (
    xP Tryd.prog (sFA 23 v1_1 4) fun v17_18 =>
    xR Tryd.prog (sLoad 3 v17_18) (w14.drew) fun v18_19 =>
    xR Tryd.prog (sEq .eql 3 true v18_19 (.int .i64 0)) (w14.drew) fun v19_20 =>
    xIf v19_20 (
    xP Tryd.prog (sFA 23 v1_1 1) fun v21_21 =>
    xR Tryd.prog (sLoad 3 v21_21) (w14.drew) fun v22_22 =>
    xR Tryd.prog (sEq .eql 3 true v22_22 (.int .i64 8)) (w14.drew) fun v23_23 =>
    xIf v23_23 (
    R (.returned (.bool true)) (w14.drew)) (
    xP Tryd.prog (sFA 23 v1_1 1) fun v25_24 =>
    xR Tryd.prog (sLoad 3 v25_24) (w14.drew) fun v26_25 =>
    xR Tryd.prog (sEq .eql 3 true v26_25 (.int .i64 1)) (w14.drew) fun v27_26 =>
    xIf v27_26 (
    xP Tryd.prog (sFA 23 v1_1 3) fun v39_27 =>
    xR Tryd.prog (sLoad 3 v39_27) (w14.drew) fun v40_28 =>
    xP Tryd.prog (sFA 23 v1_1 1) fun v41_29 =>
    xR Tryd.prog (sLoad 3 v41_29) (w14.drew) fun v42_30 =>
    xP Tryd.prog (sBin .mul 3 (.int .i64 8) v42_30) fun v43_31 =>
    xP Tryd.prog (sBin .shl 3 (.int .i64 1) v43_31) fun v44_32 =>
    xP Tryd.prog (sBin .lss 3 v40_28 v44_32) fun v45_33 =>
    R (.returned v45_33) (w14.drew)) (
    xP Tryd.prog (sFA 23 v1_1 1) fun v29_34 =>
    xR Tryd.prog (sLoad 3 v29_34) (w14.drew) fun v30_35 =>
    xR Tryd.prog (sEq .eql 3 true v30_35 (.int .i64 2)) (w14.drew) fun v31_36 =>
    xIf v31_36 (
    xP Tryd.prog (sFA 23 v1_1 3) fun v39_37 =>
    xR Tryd.prog (sLoad 3 v39_37) (w14.drew) fun v40_38 =>
    xP Tryd.prog (sFA 23 v1_1 1) fun v41_39 =>
    xR Tryd.prog (sLoad 3 v41_39) (w14.drew) fun v42_40 =>
    xP Tryd.prog (sBin .mul 3 (.int .i64 8) v42_40) fun v43_41 =>
    xP Tryd.prog (sBin .shl 3 (.int .i64 1) v43_41) fun v44_42 =>
    xP Tryd.prog (sBin .lss 3 v40_38 v44_42) fun v45_43 =>
    R (.returned v45_43) (w14.drew)) (
    xP Tryd.prog (sFA 23 v1_1 1) fun v34_44 =>
    xR Tryd.prog (sLoad 3 v34_44) (w14.drew) fun v35_45 =>
    xR Tryd.prog (sEq .eql 3 true v35_45 (.int .i64 4)) (w14.drew) fun v36_46 =>
    xIf v36_46 (
    xP Tryd.prog (sFA 23 v1_1 3) fun v39_47 =>
    xR Tryd.prog (sLoad 3 v39_47) (w14.drew) fun v40_48 =>
    xP Tryd.prog (sFA 23 v1_1 1) fun v41_49 =>
    xR Tryd.prog (sLoad 3 v41_49) (w14.drew) fun v42_50 =>
    xP Tryd.prog (sBin .mul 3 (.int .i64 8) v42_50) fun v43_51 =>
    xP Tryd.prog (sBin .shl 3 (.int .i64 1) v43_51) fun v44_52 =>
    xP Tryd.prog (sBin .lss 3 v40_48 v44_52) fun v45_53 =>
    R (.returned v45_53) (w14.drew)) (
    R (.returned (.bool false)) (w14.drew)))))) (
    R (.returned (.bool false)) (w14.drew))) (
    xR Tryd.prog (sEq .eql 3 true v14_16 (.int .i64 2)) w14 fun v50_54 =>
    xIf v50_54 (
      xP Tryd.prog (sFA 23 v1_1 1) fun v51_55 =>
      xR Tryd.prog (sLoad 3 v51_55) w14 fun v52_56 =>
      xR Tryd.prog (sEq .eql 3 true v52_56 (.int .i64 0)) w14 fun v53_57 =>
      xIf v53_57 (
      xP Tryd.prog (sFA 23 v1_1 4) fun v55_58 =>
      xR Tryd.prog (sLoad 3 v55_58) w14 fun v56_59 =>
      xR Tryd.prog (sEq .eql 3 true v56_59 (.int .i64 0)) w14 fun v57_60 =>
      xIf v57_60 (
      xP Tryd.prog (sFA 23 v1_1 3) fun v60_61 =>
      xR Tryd.prog (sLoad 3 v60_61) w14 fun v61_62 =>
      xP Tryd.prog (sBin .leq 3 v61_62 (.int .i64 65535)) fun v62_63 =>
      R (.returned v62_63) w14) (
      R (.returned (.bool false)) w14)) (
      R (.returned (.bool false)) w14)) (
      xR Tryd.prog (sEq .eql 3 true v14_16 (.int .i64 3)) w14 fun v65_64 =>
      xIf v65_64 (
        xP Tryd.prog (sFA 23 v1_1 1) fun v66_65 =>
        xR Tryd.prog (sLoad 3 v66_65) w14 fun v67_66 =>
        xR Tryd.prog (sEq .eql 3 true v67_66 (.int .i64 0)) w14 fun v68_67 =>
        xIf v68_67 (
        xP Tryd.prog (sFA 23 v1_1 3) fun v70_68 =>
        xR Tryd.prog (sLoad 3 v70_68) w14 fun v71_69 =>
        xP Tryd.prog (sBin .leq 3 v71_69 (.int .i64 255)) fun v72_70 =>
        xIf v72_70 (
        xP Tryd.prog (sFA 23 v1_1 4) fun v75_71 =>
        xR Tryd.prog (sLoad 3 v75_71) w14 fun v76_72 =>
        xP Tryd.prog (sBin .geq 3 v76_72 (.int .i64 0)) fun v77_73 =>
        xIf v77_73 (
        xP Tryd.prog (sFA 23 v1_1 4) fun v80_74 =>
        xR Tryd.prog (sLoad 3 v80_74) w14 fun v81_75 =>
        xP Tryd.prog (sBin .leq 3 v81_75 (.int .i64 65535)) fun v82_76 =>
        R (.returned v82_76) w14) (
        R (.returned (.bool false)) w14)) (
        R (.returned (.bool false)) w14)) (
        R (.returned (.bool false)) w14)) (
        R (.returned (.bool false)) w14))))
theorem C_staveref1_RightField {a0 : Value} {w : World} {R : Ending → World → Prop} (h : S_staveref1_RightField a0 w R) : Calls Tryd.prog 24 #[a0] w R :=
  funcVC_sound (an := A_staveref1_RightField) (args := [a0]) (k := 1) Tryd.func24 (by kernel_rfl) rfl
    (Eq.mp (show S_staveref1_RightField a0 w R = funcVC Tryd.prog Tryd.f24 A_staveref1_RightField [a0] w R by kernel_rfl) h)

/-- stave/staveref1.PutFields -/
def A_staveref1_PutFields : Ann := (.seq .nil (.seq .nil (.seq .nil (.seq .nil (.seq (.seq .nil (.one (.loop [8, 27] (.seq .nil (.seq .nil (.join [8] (.one (.seq .nil (.seq (.seq (.draw (.pre [0, 1, 2, 3, 4, 5, 6] .nil) [0, 0, 0, 6, 14, 31, 63]) .nil) (.seq .nil (.one (.seq .nil (.seq (.draw (.pre [0, 1, 2, 3, 4, 5, 6, 7, 8, 9, 10] .nil) [0, 0, 0, 6, 14, 30, 62, 0, 128, 511, 1023]) (.seq .nil (.seq .nil (.seq .nil (.seq (.seq .nil (.seq .nil (.one (.loop [8, 80] .nil)))) .nil))))))))))) .nil)))))) .nil)))))
def S_staveref1_PutFields (a0 : Value) (a1 : Value) (w : World) (R : Ending → World → Prop) : Prop :=
  xE Tryd.prog (sCall 49 #[a0]) w fun v14_1 w2 =>
  xP Tryd.prog (sBin .geq 3 v14_1 (.int .i64 0)) fun v16_3 =>
  xIf v16_3 (
    R (.returned (.tuple #[(.slice none 0 0), (.int .i64 1), v14_1])) w2) (
    xP Tryd.prog (sB .len #[33] #[a1]) fun v19_4 =>
  xP Tryd.prog (sB .len #[24] #[a0]) fun v21_5 =>
  xR Tryd.prog (sEq .neq 3 false v19_4 v21_5) w2 fun v22_6 =>
  xIf v22_6 (
    xP Tryd.prog (sB .len #[33] #[a1]) fun v24_7 =>
    R (.returned (.tuple #[(.slice none 0 0), (.int .i64 1), v24_7])) w2) (
    xP Tryd.prog (sB .len #[24] #[a0]) fun v26_8 =>
  xLoop [(.slice none 0 0), (.int .i64 0)] w2 fun J9 vs10 _ w12 =>
    xP Tryd.prog (sBin .lss 3 (vs10.getD 1 undef) v26_8) fun v28_13 =>
    xIf v28_13 (
      xJoin (fun J14 =>
      xP Tryd.prog (sIA 24 a0 (vs10.getD 1 undef)) fun v30_15 =>
      xR Tryd.prog (sLoad 23 v30_15) w12 fun v31_16 =>
      xE Tryd.prog (sAlloc 23) w12 fun v10_17 w18 =>
      xE Tryd.prog (sStore 23 v10_17 v31_16) w18 fun _ w19 =>
      xR Tryd.prog (sLoad 23 v10_17) (w19.drew) fun v32_20 =>
      xP Tryd.prog (sIA 33 a1 (vs10.getD 1 undef)) fun v35_21 =>
      xR Tryd.prog (sLoad 32 v35_21) (w19.drew) fun v36_22 =>
      xE Tryd.prog (sCall 50 #[v32_20, v36_22]) (w19.drew) fun v37_23 w24 =>
      xP Tryd.prog (sUn .not v37_23) fun v38_25 =>
      xIf v38_25 (
        R (.returned (.tuple #[(.slice none 0 0), (.int .i64 2), (vs10.getD 1 undef)])) w24) (
        xP Tryd.prog (sFA 23 v10_17 0) fun v40_26 =>
      xR Tryd.prog (sLoad 3 v40_26) w24 fun v41_27 =>
      xR Tryd.prog (sEq .eql 3 true v41_27 (.int .i64 1)) w24 fun v43_28 =>
      xIf v43_28 (
        xP Tryd.prog (sIA 33 a1 (vs10.getD 1 undef)) fun v47_29 =>
        xP Tryd.prog (sFA 32 v47_29 0) fun v48_30 =>
        xR Tryd.prog (sLoad 3 v48_30) (w24.drew) fun v49_31 =>
        xP Tryd.prog (sConv 3 92 v49_31) fun v50_32 =>
        xP Tryd.prog (sFA 23 v10_17 1) fun v51_33 =>
        xR Tryd.prog (sLoad 3 v51_33) (w24.drew) fun v52_34 =>
        xE Tryd.prog (sCall 51 #[(vs10.getD 0 undef), v50_32, v52_34]) (w24.drew) fun v53_35 w36 =>
        J14 [v53_35] w36) (
        xR Tryd.prog (sEq .eql 3 true v41_27 (.int .i64 2)) w24 fun v55_37 =>
        xIf v55_37 (
          xP Tryd.prog (sIA 33 a1 (vs10.getD 1 undef)) fun v59_38 =>
          xP Tryd.prog (sFA 32 v59_38 1) fun v60_39 =>
          xR Tryd.prog (sLoad 9 v60_39) w24 fun v61_40 =>
          xE Tryd.prog (sCall 52 #[(vs10.getD 0 undef), v61_40]) w24 fun v62_41 w42 =>
          J14 [v62_41] w42) (
          xR Tryd.prog (sEq .eql 3 true v41_27 (.int .i64 3)) w24 fun v64_43 =>
          xIf v64_43 (
            xP Tryd.prog (sIA 33 a1 (vs10.getD 1 undef)) fun v68_44 =>
            xP Tryd.prog (sFA 32 v68_44 2) fun v69_45 =>
            xR Tryd.prog (sLoad 30 v69_45) w24 fun v70_46 =>
            xP Tryd.prog (sB .len #[30] #[v70_46]) fun v71_47 =>
            xP Tryd.prog (sConv 3 92 v71_47) fun v72_48 =>
            xE Tryd.prog (sCall 51 #[(vs10.getD 0 undef), v72_48, (.int .i64 1)]) w24 fun v73_49 w50 =>
            xP Tryd.prog (sIA 33 a1 (vs10.getD 1 undef)) fun v76_51 =>
            xP Tryd.prog (sFA 32 v76_51 2) fun v77_52 =>
            xR Tryd.prog (sLoad 30 v77_52) w50 fun v78_53 =>
            xP Tryd.prog (sB .len #[30] #[v78_53]) fun v79_54 =>
            xLoop [v73_49, (.int .i64 0)] w50 fun J55 vs56 _ w58 =>
              xP Tryd.prog (sBin .lss 3 (vs56.getD 1 undef) v79_54) fun v81_59 =>
              xIf v81_59 (
                xP Tryd.prog (sIA 30 v78_53 (vs56.getD 1 undef)) fun v82_60 =>
              xR Tryd.prog (sLoad 9 v82_60) w58 fun v83_61 =>
              xE Tryd.prog (sCall 52 #[(vs56.getD 0 undef), v83_61]) w58 fun v86_62 w63 =>
              xP Tryd.prog (sBin .add 3 (vs56.getD 1 undef) (.int .i64 1)) fun v87_64 =>
              J55 [v86_62, v87_64] w63) (
                J14 [(vs56.getD 0 undef)] w58)) (
            J14 [(vs10.getD 0 undef)] w24))))) fun vs65 _ w67 =>
    xP Tryd.prog (sBin .add 3 (vs10.getD 1 undef) (.int .i64 1)) fun v88_68 =>
    J9 [(vs65.getD 0 undef), v88_68] w67) (
      R (.returned (.tuple #[(vs10.getD 0 undef), (.int .i64 0), (.int .i64 0)])) w12)))
theorem C_staveref1_PutFields {a0 : Value} {a1 : Value} {w : World} {R : Ending → World → Prop} (h : S_staveref1_PutFields a0 a1 w R) : Calls Tryd.prog 25 #[a0, a1] w R :=
  funcVC_sound (an := A_staveref1_PutFields) (args := [a0, a1]) (k := 2) Tryd.func25 (by kernel_rfl) rfl
    (Eq.mp (show S_staveref1_PutFields a0 a1 w R = funcVC Tryd.prog Tryd.f25 A_staveref1_PutFields [a0, a1] w R by kernel_rfl) h)

/-- stave/stavebook.Within -/
def A_stavebook_Within : Ann := (.seq .nil (.seq .nil (.join [0] .nil .nil)))
def S_stavebook_Within (a0 : Value) (a1 : Value) (a2 : Value) (w : World) (R : Ending → World → Prop) : Prop :=
  xP Tryd.prog (sBin .sub 3 a2 a1) fun v10_1 =>
  xP Tryd.prog (sBin .add 3 v10_1 (.int .i64 1)) fun v11_2 =>
  xP Tryd.prog (sBin .rem 3 a0 v11_2) fun v12_3 =>
  xJoin (fun J4 =>
    xP Tryd.prog (sBin .lss 3 v12_3 (.int .i64 0)) fun v14_5 =>
    xIf v14_5 (
      xP Tryd.prog (sBin .add 3 v12_3 a2) fun v17_6 =>
      xP Tryd.prog (sBin .sub 3 v17_6 a1) fun v19_7 =>
      xP Tryd.prog (sBin .add 3 v19_7 (.int .i64 1)) fun v20_8 =>
      J4 [v20_8] w) (
      J4 [v12_3] w)) fun vs9 _ w11 =>
  xP Tryd.prog (sBin .add 3 a1 (vs9.getD 0 undef)) fun v23_12 =>
  R (.returned v23_12) w11
theorem C_stavebook_Within {a0 : Value} {a1 : Value} {a2 : Value} {w : World} {R : Ending → World → Prop} (h : S_stavebook_Within a0 a1 a2 w R) : Calls Tryd.prog 26 #[a0, a1, a2] w R :=
  funcVC_sound (an := A_stavebook_Within) (args := [a0, a1, a2]) (k := 3) Tryd.func26 (by kernel_rfl) rfl
    (Eq.mp (show S_stavebook_Within a0 a1 a2 w R = funcVC Tryd.prog Tryd.f26 A_stavebook_Within [a0, a1, a2] w R by kernel_rfl) h)

end Go.Proofs.YtclojjiiiejfpaaDoor
