import Derived.Test.YtolincflccddhaaXOwn
import Derived.Test.YtolincflccddhaaRows
namespace Go.Proofs.Ytolincflccddhaa
open Go.X

/-- stave/stavelaw16.IndexRuns -/
def A_IndexRuns : Ann := .nil
def S_IndexRuns (w : World) (R : Ending → World → Prop) : Prop :=
  xE Try.prog (sCall 8 #[(.int .i64 2)]) w fun v4_1 w2 =>
  xR Try.prog (sEq .eql 22 true v4_1 (.pointer none)) w2 fun v6_3 =>
  xIf v6_3 (
    R (.returned (.bool false)) w2) (
    xP Try.prog (sBuild 26 #[(0, (.int .i64 0)), (1, (.int .i64 3)), (2, (.int .i64 5))]) fun v8_4 =>
  xE Try.prog (sCall 9 #[v4_1, v8_4]) w2 fun _ w6 =>
  xP Try.prog (sBuild 26 #[(0, (.int .i64 3)), (1, (.int .i64 2)), (2, (.int .i64 4))]) fun v11_7 =>
  xE Try.prog (sCall 9 #[v4_1, v11_7]) w6 fun _ w9 =>
  xP Try.prog (sBuild 26 #[(0, (.int .i64 9)), (1, (.int .i64 1)), (2, (.int .i64 8))]) fun v14_10 =>
  xE Try.prog (sCall 9 #[v4_1, v14_10]) w9 fun _ w12 =>
  xE Try.prog (sCall 10 #[v4_1, (.int .i64 2)]) w12 fun v17_13 w14 =>
  xE Try.prog (sCall 10 #[v4_1, (.int .i64 3)]) w14 fun v19_15 w16 =>
  xE Try.prog (sCall 10 #[v4_1, (.int .i64 5)]) w16 fun v21_17 w18 =>
  xE Try.prog (sCall 10 #[v4_1, (.int .i64 9)]) w18 fun v23_19 w20 =>
  xE Try.prog (sCall 10 #[v4_1, (.int .i64 10)]) w20 fun v25_21 w22 =>
  xE Try.prog (sBuildSlice 28 5 #[(0, v17_13), (1, v19_15), (2, v21_17), (3, v23_19), (4, v25_21)]) w22 fun v26_23 w24 =>
  xE Try.prog (sCall 11 #[v4_1, (.int .i64 5)]) w24 fun v28_25 w26 =>
  xE Try.prog (sCall 11 #[v4_1, (.int .i64 6)]) w26 fun v30_27 w28 =>
  xE Try.prog (sCall 11 #[v4_1, (.int .i64 9)]) w28 fun v32_29 w30 =>
  xE Try.prog (sBuildSlice 28 3 #[(0, v28_25), (1, v30_27), (2, v32_29)]) w30 fun v33_31 w32 =>
  xE Try.prog (sBuildSlice 28 5 #[(0, (.int .i64 0)), (1, (.int .i64 1)), (2, (.int .i64 2)), (3, (.int .i64 2)), (4, (.int .i64 3))]) w32 fun v35_33 w34 =>
  xE Try.prog (sCall 12 #[v26_23, v35_33]) w34 fun v36_35 w36 =>
  xIf v36_35 (
  xE Try.prog (sBuildSlice 28 3 #[(0, (.int .i64 0)), (1, (.int .i64 2)), (2, (.int .i64 3))]) w36 fun v39_37 w38 =>
  xE Try.prog (sCall 12 #[v33_31, v39_37]) w38 fun v40_39 w40 =>
  xP Try.prog (sPick v36_35 v40_39 (.bool false)) fun v41_41 =>
  R (.returned v41_41) w40) (
  xP Try.prog (sPick v36_35 undef (.bool false)) fun v41_42 =>
  R (.returned v41_42) w36))
theorem C_IndexRuns {w : World} {R : Ending → World → Prop} (h : S_IndexRuns  w R) : Calls Try.prog 3 #[] w R :=
  funcVC_sound (an := A_IndexRuns) (args := []) (k := 0) Try.func3 (by kernel_rfl) rfl
    (Eq.mp (show S_IndexRuns  w R = funcVC Try.prog Try.f3 A_IndexRuns [] w R by kernel_rfl) h)

/-- stave/stavelaw16.IndexNear -/
def A_IndexNear : Ann := (.seq .nil (.seq .nil (.seq .nil (.seq .nil (.seq .nil (.seq (.seq .nil (.one (.loop [8, 9, 10] (.seq (.join [27] .nil .nil) .nil)))) (.seq .nil (.seq (.seq .nil (.one (.loop [11, 48] .nil))) (.seq (.join [72] .nil .nil) (.seq .nil (.seq .nil (.seq (.one (.loop [15] (.seq (.join [92] .nil .nil) .nil))) .nil))))))))))))
def S_IndexNear (a0 : Value) (a1 : Value) (a2 : Value) (w : World) (R : Ending → World → Prop) : Prop :=
  xE Try.prog (sCall 8 #[a0]) w fun v17_1 w2 =>
  xR Try.prog (sEq .eql 22 true v17_1 (.pointer none)) w2 fun v19_3 =>
  xIf v19_3 (
    R (.returned (.bool false)) w2) (
    xLoop [(.int .i64 0), (.slice none 0 0), (.int .i64 0)] w2 fun J4 vs5 _ w7 =>
    xJoin (fun J8 =>
      xP Try.prog (sB .len #[28] #[a1]) fun v22_9 =>
      xP Try.prog (sBin .lss 3 (vs5.getD 2 undef) v22_9) fun v23_10 =>
      xIf v23_10 (
      xP Try.prog (sBin .lss 3 (vs5.getD 2 undef) (.int .i64 20)) fun v26_11 =>
      xP Try.prog (sPick v23_10 v26_11 (.bool false)) fun v27_12 =>
      J8 [v27_12] w7) (
      xP Try.prog (sPick v23_10 undef (.bool false)) fun v27_13 =>
      J8 [v27_13] w7)) fun vs14 _ w16 =>
    xIf (vs14.getD 0 undef) (
      xP Try.prog (sIA 28 a1 (vs5.getD 2 undef)) fun v33_17 =>
    xR Try.prog (sLoad 3 v33_17) w16 fun v34_18 =>
    xE Try.prog (sCall 13 #[v34_18, (.int .i64 1), (.int .i64 8)]) w16 fun v35_19 w20 =>
    xE Try.prog (sBuildSlice 28 1 #[(0, v35_19)]) w20 fun v36_21 w22 =>
    xE Try.prog (sB .append #[28, 28] #[(vs5.getD 1 undef), v36_21]) w22 fun v37_23 w24 =>
    xP Try.prog (sIA 28 v37_23 (vs5.getD 2 undef)) fun v41_25 =>
    xR Try.prog (sLoad 3 v41_25) w24 fun v42_26 =>
    xP Try.prog (sBin .add 3 (vs5.getD 0 undef) v42_26) fun v43_27 =>
    xP Try.prog (sBin .add 3 (vs5.getD 2 undef) (.int .i64 1)) fun v29_28 =>
    J4 [v43_27, v37_23, v29_28] w24) (
      xP Try.prog (sBin .sub 3 (.int .i64 9223372036854775807) (vs5.getD 0 undef)) fun v45_29 =>
  xP Try.prog (sB .len #[28] #[(vs5.getD 1 undef)]) fun v47_30 =>
  xLoop [v45_29, (.int .i64 0)] w16 fun J31 vs32 _ w34 =>
    xP Try.prog (sBin .lss 3 (vs32.getD 1 undef) v47_30) fun v49_35 =>
    xIf v49_35 (
      xP Try.prog (sIA 28 (vs5.getD 1 undef) (vs32.getD 1 undef)) fun v51_36 =>
    xR Try.prog (sLoad 3 v51_36) w34 fun v52_37 =>
    xP Try.prog (sBuild 26 #[(0, (vs32.getD 0 undef)), (1, v52_37), (2, (vs32.getD 1 undef))]) fun v57_38 =>
    xE Try.prog (sCall 9 #[v17_1, v57_38]) w34 fun _ w40 =>
    xP Try.prog (sBin .add 3 (vs32.getD 0 undef) v52_37) fun v61_41 =>
    xP Try.prog (sBin .add 3 (vs32.getD 1 undef) (.int .i64 1)) fun v62_42 =>
    J31 [v61_41, v62_42] w40) (
      xJoin (fun J43 =>
    xE Try.prog (sCall 10 #[v17_1, (.int .i64 9223372036854775807)]) w34 fun v64_44 w45 =>
    xP Try.prog (sB .len #[28] #[(vs5.getD 1 undef)]) fun v66_46 =>
    xR Try.prog (sEq .neq 3 false v64_44 v66_46) w45 fun v67_47 =>
    xIf v67_47 (
    xP Try.prog (sPick v67_47 (.bool true) undef) fun v72_48 =>
    J43 [v72_48] w45) (
    xE Try.prog (sCall 10 #[v17_1, (.int .i64 0)]) w45 fun v70_49 w50 =>
    xR Try.prog (sEq .neq 3 true v70_49 (.int .i64 0)) w50 fun v71_51 =>
    xP Try.prog (sPick v67_47 (.bool true) v71_51) fun v72_52 =>
    J43 [v72_52] w50)) fun vs53 _ w55 =>
  xIf (vs53.getD 0 undef) (
    R (.returned (.bool false)) w55) (
    xE Try.prog (sCall 13 #[a2, (.int .i64 1), (.int .i64 200)]) w55 fun v74_56 w57 =>
  xP Try.prog (sBin .sub 3 (.int .i64 9223372036854775807) v74_56) fun v75_58 =>
  xLoop [(.int .i64 0)] w57 fun J59 vs60 _ w62 =>
    xJoin (fun J63 =>
      xP Try.prog (sB .len #[28] #[(vs5.getD 1 undef)]) fun v78_64 =>
      xP Try.prog (sBin .lss 3 (vs60.getD 0 undef) v78_64) fun v79_65 =>
      xIf v79_65 (
      xE Try.prog (sCall 14 #[v17_1, (vs60.getD 0 undef)]) w62 fun v83_66 w67 =>
      xP Try.prog (sField 26 v83_66 0) fun v84_68 =>
      xE Try.prog (sCall 14 #[v17_1, (vs60.getD 0 undef)]) w67 fun v87_69 w70 =>
      xP Try.prog (sField 26 v87_69 1) fun v88_71 =>
      xP Try.prog (sBin .add 3 v84_68 v88_71) fun v89_72 =>
      xP Try.prog (sBin .leq 3 v89_72 v75_58) fun v91_73 =>
      xP Try.prog (sPick v79_65 v91_73 (.bool false)) fun v92_74 =>
      J63 [v92_74] w70) (
      xP Try.prog (sPick v79_65 undef (.bool false)) fun v92_75 =>
      J63 [v92_75] w62)) fun vs76 _ w78 =>
    xIf (vs76.getD 0 undef) (
      xP Try.prog (sBin .add 3 (vs60.getD 0 undef) (.int .i64 1)) fun v94_79 =>
    J59 [v94_79] w78) (
      xE Try.prog (sCall 10 #[v17_1, v75_58]) w78 fun v97_80 w81 =>
  xR Try.prog (sEq .eql 3 false v97_80 (vs60.getD 0 undef)) w81 fun v99_82 =>
  xIf v99_82 (
  xE Try.prog (sCall 3 #[]) w81 fun v101_83 w84 =>
  xP Try.prog (sPick v99_82 v101_83 (.bool false)) fun v102_85 =>
  R (.returned v102_85) w84) (
  xP Try.prog (sPick v99_82 undef (.bool false)) fun v102_86 =>
  R (.returned v102_86) w81))))))
theorem C_IndexNear {a0 : Value} {a1 : Value} {a2 : Value} {w : World} {R : Ending → World → Prop} (h : S_IndexNear a0 a1 a2 w R) : Calls Try.prog 4 #[a0, a1, a2] w R :=
  funcVC_sound (an := A_IndexNear) (args := [a0, a1, a2]) (k := 3) Try.func4 (by kernel_rfl) rfl
    (Eq.mp (show S_IndexNear a0 a1 a2 w R = funcVC Try.prog Try.f4 A_IndexNear [a0, a1, a2] w R by kernel_rfl) h)

/-- stave/stavelaw16.IndexPlays -/
def A_IndexPlays : Ann := (.seq .nil (.seq .nil (.seq .nil (.seq .nil (.seq .nil (.seq (.seq .nil (.one (.loop [10, 11, 12] (.seq (.join [32] .nil .nil) (.seq (.one (.seq .nil (.join [10, 11] (.seq .nil (.one (.seq .nil (.seq (.join [14] (.draw (.pre [0, 1, 2, 5, 6, 8, 9, 11] (.alt 3 (.pre [4] (.alt 7 (.pre [] (.alt 10 (.pre [12, 13, 14] .nil) (.op 13 (.pre [10, 12, 14] .nil)))) (.op 13 (.pre [7, 10, 12, 14] .nil)))) (.op 13 (.pre [3, 4, 7, 10, 12, 14] .nil)))) [0, 0, 2, 6, 15, 0, 32, 110, 0, 256, 1006, 0, 4095, 0, 16383]) .nil) .nil)))) (.seq (.join [100] .nil .nil) (.seq .nil (.one (.loop [15] (.seq (.join [108] .nil .nil) (.seq (.one (.seq .nil (.seq .nil (.join [140] .nil .nil)))) .nil))))))))) .nil))))) (.seq (.seq .nil (.one (.loop [143] (.seq .nil (.seq .nil (.seq (.one (.seq .nil (.seq (.draw (.pre [0, 1, 3, 4, 5, 6, 2, 7] .nil) [0, 0, 3, 0, 0, 24, 56, 127]) .nil))) .nil)))))) .nil)))))))
def S_IndexPlays (a0 : Value) (a1 : Value) (a2 : Value) (a3 : Value) (w : World) (R : Ending → World → Prop) : Prop :=
  xE Try.prog (sCall 8 #[a0]) w fun v20_1 w2 =>
  xR Try.prog (sEq .eql 22 true v20_1 (.pointer none)) w2 fun v22_3 =>
  xIf v22_3 (
    R (.returned (.bool false)) w2) (
    xE Try.prog (sCall 13 #[a1, (.int .i64 0), (.int .i64 4611686018427387904)]) w2 fun v24_4 w5 =>
  xLoop [(.slice none 0 0), v24_4, (.int .i64 0)] w5 fun J6 vs7 _ w9 =>
    xJoin (fun J10 =>
      xP Try.prog (sB .len #[34] #[a2]) fun v27_11 =>
      xP Try.prog (sBin .lss 3 (vs7.getD 2 undef) v27_11) fun v28_12 =>
      xIf v28_12 (
      xP Try.prog (sBin .lss 3 (vs7.getD 2 undef) (.int .i64 60)) fun v31_13 =>
      xP Try.prog (sPick v28_12 v31_13 (.bool false)) fun v32_14 =>
      J10 [v32_14] w9) (
      xP Try.prog (sPick v28_12 undef (.bool false)) fun v32_15 =>
      J10 [v32_15] w9)) fun vs16 _ w18 =>
    xIf (vs16.getD 0 undef) (
      xP Try.prog (sIA 34 a2 (vs7.getD 2 undef)) fun v37_19 =>
    xR Try.prog (sLoad 37 v37_19) w18 fun v38_20 =>
    xE Try.prog (sAlloc 37) w18 fun v13_21 w22 =>
    xE Try.prog (sStore 37 v13_21 v38_20) w22 fun _ w23 =>
    xJoin (fun J24 =>
      xP Try.prog (sFA 37 v13_21 0) fun v39_25 =>
      xR Try.prog (sLoad 3 v39_25) w23 fun v40_26 =>
      xR Try.prog (sEq .eql 3 true v40_26 (.int .i64 1)) w23 fun v42_27 =>
      xIf v42_27 (
        xJoin (fun J28 =>
          xP Try.prog (sFA 37 v13_21 1) fun v44_29 =>
          xR Try.prog (sLoad 3 v44_29) (w23.drew) fun v45_30 =>
          xP Try.prog (sFA 37 v13_21 2) fun v48_31 =>
          xR Try.prog (sLoad 3 v48_31) (w23.drew) fun v49_32 =>
          xP Try.prog (sFA 37 v13_21 3) fun v51_33 =>
          xR Try.prog (sLoad 3 v51_33) (w23.drew) fun v52_34 =>
          (xE Try.prog (sCall 13 #[v45_30, (.int .i64 0), (.int .i64 3)]) (w23.drew) fun v46_35 w36 =>
          xStill Try.prog (sLoad 3 v51_33) v52_34 w36 <|
          xStill Try.prog (sLoad 3 v48_31) v49_32 w36 <|
          xP Try.prog (sBin .add 3 (vs7.getD 1 undef) v46_35) fun v47_37 =>
          (xE Try.prog (sCall 13 #[v49_32, (.int .i64 1), (.int .i64 8)]) w36 fun v50_38 w39 =>
          xStill Try.prog (sLoad 3 v51_33) v52_34 w39 <|
          (xE Try.prog (sCall 13 #[v52_34, (.int .i64 0), (.int .i64 50)]) w39 fun v53_40 w41 =>
          xP Try.prog (sBuild 26 #[(0, v47_37), (1, v50_38), (2, v53_40), (3, (vs7.getD 2 undef))]) fun v55_42 =>
          xE Try.prog (sAlloc 26) w41 fun v14_43 w44 =>
          xE Try.prog (sStore 26 v14_43 v55_42) w44 fun _ w45 =>
          J28 [v14_43] w45) ∧
          (xE Try.prog (sAlloc 26) w39 fun v14_46 w47 =>
          xStill Try.prog (sLoad 3 v51_33) v52_34 w47 <|
          xE Try.prog (sCall 13 #[v52_34, (.int .i64 0), (.int .i64 50)]) w47 fun v53_48 w49 =>
          xP Try.prog (sBuild 26 #[(0, v47_37), (1, v50_38), (2, v53_48), (3, (vs7.getD 2 undef))]) fun v55_50 =>
          xE Try.prog (sStore 26 v14_46 v55_50) w49 fun _ w51 =>
          J28 [v14_46] w51)) ∧
          (xE Try.prog (sAlloc 26) w36 fun v14_52 w53 =>
          xStill Try.prog (sLoad 3 v51_33) v52_34 w53 <|
          xStill Try.prog (sLoad 3 v48_31) v49_32 w53 <|
          xE Try.prog (sCall 13 #[v49_32, (.int .i64 1), (.int .i64 8)]) w53 fun v50_54 w55 =>
          xStill Try.prog (sLoad 3 v51_33) v52_34 w55 <|
          xE Try.prog (sCall 13 #[v52_34, (.int .i64 0), (.int .i64 50)]) w55 fun v53_56 w57 =>
          xP Try.prog (sBuild 26 #[(0, v47_37), (1, v50_54), (2, v53_56), (3, (vs7.getD 2 undef))]) fun v55_58 =>
          xE Try.prog (sStore 26 v14_52 v55_58) w57 fun _ w59 =>
          J28 [v14_52] w59)) ∧
          (xE Try.prog (sAlloc 26) (w23.drew) fun v14_60 w61 =>
          xStill Try.prog (sLoad 3 v51_33) v52_34 w61 <|
          xStill Try.prog (sLoad 3 v48_31) v49_32 w61 <|
          xStill Try.prog (sLoad 3 v44_29) v45_30 w61 <|
          xE Try.prog (sCall 13 #[v45_30, (.int .i64 0), (.int .i64 3)]) w61 fun v46_62 w63 =>
          xStill Try.prog (sLoad 3 v51_33) v52_34 w63 <|
          xStill Try.prog (sLoad 3 v48_31) v49_32 w63 <|
          xP Try.prog (sBin .add 3 (vs7.getD 1 undef) v46_62) fun v47_64 =>
          xE Try.prog (sCall 13 #[v49_32, (.int .i64 1), (.int .i64 8)]) w63 fun v50_65 w66 =>
          xStill Try.prog (sLoad 3 v51_33) v52_34 w66 <|
          xE Try.prog (sCall 13 #[v52_34, (.int .i64 0), (.int .i64 50)]) w66 fun v53_67 w68 =>
          xP Try.prog (sBuild 26 #[(0, v47_64), (1, v50_65), (2, v53_67), (3, (vs7.getD 2 undef))]) fun v55_69 =>
          xE Try.prog (sStore 26 v14_60 v55_69) w68 fun _ w70 =>
          J28 [v14_60] w70)) fun vs71 _ w73 =>
        xP Try.prog (sFA 26 (vs71.getD 0 undef) 0) fun v56_74 =>
        xR Try.prog (sLoad 3 v56_74) w73 fun v57_75 =>
        xP Try.prog (sFA 26 (vs71.getD 0 undef) 1) fun v58_76 =>
        xR Try.prog (sLoad 3 v58_76) w73 fun v59_77 =>
        xP Try.prog (sBin .add 3 v57_75 v59_77) fun v60_78 =>
        xR Try.prog (sLoad 26 (vs71.getD 0 undef)) w73 fun v62_79 =>
        xE Try.prog (sCall 9 #[v20_1, v62_79]) w73 fun _ w81 =>
        xR Try.prog (sLoad 26 (vs71.getD 0 undef)) w81 fun v65_82 =>
        xE Try.prog (sBuildSlice 35 1 #[(0, v65_82)]) w81 fun v66_83 w84 =>
        xE Try.prog (sB .append #[35, 35] #[(vs7.getD 0 undef), v66_83]) w84 fun v67_85 w86 =>
        J24 [v67_85, v60_78] w86) (
        xR Try.prog (sEq .eql 3 true v40_26 (.int .i64 2)) w23 fun v69_87 =>
        xIf v69_87 (
          xP Try.prog (sFA 37 v13_21 2) fun v71_88 =>
          xR Try.prog (sLoad 3 v71_88) w23 fun v72_89 =>
          xE Try.prog (sCall 15 #[v20_1, v72_89]) w23 fun _ w91 =>
          xP Try.prog (sB .len #[35] #[(vs7.getD 0 undef)]) fun v76_92 =>
          xP Try.prog (sFA 37 v13_21 2) fun v77_93 =>
          xR Try.prog (sLoad 3 v77_93) w91 fun v78_94 =>
          xP Try.prog (sB .max #[3, 3] #[v78_94, (.int .i64 0)]) fun v79_95 =>
          xP Try.prog (sB .min #[3, 3] #[v76_92, v79_95]) fun v80_96 =>
          xP Try.prog (sSlice 35 (vs7.getD 0 undef) (some v80_96) none none) fun v81_97 =>
          J24 [v81_97, (vs7.getD 1 undef)] w91) (
          J24 [(vs7.getD 0 undef), (vs7.getD 1 undef)] w23))) fun vs98 _ w100 =>
    xJoin (fun J101 =>
      xE Try.prog (sCall 16 #[v20_1]) w100 fun v83_102 w103 =>
      xP Try.prog (sB .len #[35] #[(vs98.getD 0 undef)]) fun v85_104 =>
      xR Try.prog (sEq .neq 3 false v83_102 v85_104) w103 fun v86_105 =>
      xIf v86_105 (
      xP Try.prog (sPick v86_105 (.bool true) undef) fun v92_106 =>
      xIf v92_106 (
      xP Try.prog (sPick v92_106 (.bool true) undef) fun v100_107 =>
      J101 [v100_107] w103) (
      xP Try.prog (sB .len #[35] #[(vs98.getD 0 undef)]) fun v96_108 =>
      xE Try.prog (sCall 14 #[v20_1, v96_108]) w103 fun v97_109 w110 =>
      xP Try.prog (sBuild 26 #[]) fun v98_111 =>
      xR Try.prog (sEq .neq 26 false v97_109 v98_111) w110 fun v99_112 =>
      xP Try.prog (sPick v92_106 (.bool true) v99_112) fun v100_113 =>
      J101 [v100_113] w110)) (
      xE Try.prog (sCall 14 #[v20_1, (.int .i64 (-1))]) w103 fun v89_114 w115 =>
      xP Try.prog (sBuild 26 #[]) fun v90_116 =>
      xR Try.prog (sEq .neq 26 false v89_114 v90_116) w115 fun v91_117 =>
      xP Try.prog (sPick v86_105 (.bool true) v91_117) fun v92_118 =>
      xIf v92_118 (
      xP Try.prog (sPick v92_118 (.bool true) undef) fun v100_119 =>
      J101 [v100_119] w115) (
      xP Try.prog (sB .len #[35] #[(vs98.getD 0 undef)]) fun v96_120 =>
      xE Try.prog (sCall 14 #[v20_1, v96_120]) w115 fun v97_121 w122 =>
      xP Try.prog (sBuild 26 #[]) fun v98_123 =>
      xR Try.prog (sEq .neq 26 false v97_121 v98_123) w122 fun v99_124 =>
      xP Try.prog (sPick v92_118 (.bool true) v99_124) fun v100_125 =>
      J101 [v100_125] w122))) fun vs126 _ w128 =>
    xIf (vs126.getD 0 undef) (
      R (.returned (.bool false)) w128) (
      xLoop [(.int .i64 0)] w128 fun J129 vs130 _ w132 =>
      xJoin (fun J133 =>
        xP Try.prog (sB .len #[28] #[a3]) fun v103_134 =>
        xP Try.prog (sBin .lss 3 (vs130.getD 0 undef) v103_134) fun v104_135 =>
        xIf v104_135 (
        xP Try.prog (sBin .lss 3 (vs130.getD 0 undef) (.int .i64 4)) fun v107_136 =>
        xP Try.prog (sPick v104_135 v107_136 (.bool false)) fun v108_137 =>
        J133 [v108_137] w132) (
        xP Try.prog (sPick v104_135 undef (.bool false)) fun v108_138 =>
        J133 [v108_138] w132)) fun vs139 _ w141 =>
      xIf (vs139.getD 0 undef) (
        xP Try.prog (sBin .sub 3 (vs98.getD 1 undef) (.int .i64 20)) fun v112_142 =>
      xP Try.prog (sB .max #[3, 3] #[v112_142, (.int .i64 0)]) fun v113_143 =>
      xP Try.prog (sIA 28 a3 (vs130.getD 0 undef)) fun v116_144 =>
      xR Try.prog (sLoad 3 v116_144) w141 fun v117_145 =>
      xE Try.prog (sCall 13 #[v117_145, (.int .i64 0), (.int .i64 25)]) w141 fun v118_146 w147 =>
      xP Try.prog (sBin .add 3 v113_143 v118_146) fun v119_148 =>
      xP Try.prog (sIA 28 a3 (vs130.getD 0 undef)) fun v122_149 =>
      xR Try.prog (sLoad 3 v122_149) w147 fun v123_150 =>
      xE Try.prog (sCall 13 #[v123_150, (.int .i64 0), (.int .i64 51)]) w147 fun v124_151 w152 =>
      xJoin (fun J153 =>
        xE Try.prog (sCall 10 #[v20_1, v119_148]) w152 fun v127_154 w155 =>
        xE Try.prog (sCall 17 #[(vs98.getD 0 undef), v119_148]) w155 fun v130_156 w157 =>
        xR Try.prog (sEq .neq 3 false v127_154 v130_156) w157 fun v131_158 =>
        xIf v131_158 (
        xP Try.prog (sPick v131_158 (.bool true) undef) fun v140_159 =>
        J153 [v140_159] w157) (
        xE Try.prog (sCall 11 #[v20_1, v124_151]) w157 fun v135_160 w161 =>
        xE Try.prog (sCall 18 #[(vs98.getD 0 undef), v124_151]) w161 fun v138_162 w163 =>
        xR Try.prog (sEq .neq 3 false v135_160 v138_162) w163 fun v139_164 =>
        xP Try.prog (sPick v131_158 (.bool true) v139_164) fun v140_165 =>
        J153 [v140_165] w163)) fun vs166 _ w168 =>
      xIf (vs166.getD 0 undef) (
        R (.returned (.bool false)) w168) (
        xP Try.prog (sBin .add 3 (vs130.getD 0 undef) (.int .i64 1)) fun v110_169 =>
      J129 [v110_169] w168)) (
        xP Try.prog (sBin .add 3 (vs7.getD 2 undef) (.int .i64 1)) fun v34_170 =>
    J6 [(vs98.getD 0 undef), (vs98.getD 1 undef), v34_170] w141))) (
      xP Try.prog (sB .len #[35] #[(vs7.getD 0 undef)]) fun v142_171 =>
  xLoop [(.int .i64 0)] w18 fun J172 vs173 _ w175 =>
    xP Try.prog (sBin .lss 3 (vs173.getD 0 undef) v142_171) fun v144_176 =>
    xIf v144_176 (
      xP Try.prog (sIA 35 (vs7.getD 0 undef) (vs173.getD 0 undef)) fun v151_177 =>
    xR Try.prog (sLoad 26 v151_177) (w175.drew) fun v152_178 =>
    xE Try.prog (sCall 14 #[v20_1, (vs173.getD 0 undef)]) (w175.drew) fun v148_179 w180 =>
    xStill Try.prog (sLoad 26 v151_177) v152_178 w180 <|
    xR Try.prog (sEq .neq 26 false v148_179 v152_178) w180 fun v153_181 =>
    xIf v153_181 (
      R (.returned (.bool false)) w180) (
      xP Try.prog (sBin .add 3 (vs173.getD 0 undef) (.int .i64 1)) fun v154_182 =>
    J172 [v154_182] w180)) (
      xE Try.prog (sCall 10 #[v20_1, (.int .i64 0)]) w175 fun v156_183 w184 =>
  xE Try.prog (sCall 17 #[(vs7.getD 0 undef), (.int .i64 0)]) w184 fun v158_185 w186 =>
  xR Try.prog (sEq .eql 3 false v156_183 v158_185) w186 fun v159_187 =>
  xIf v159_187 (
  xE Try.prog (sCall 10 #[v20_1, (.int .i64 9223372036854775807)]) w186 fun v162_188 w189 =>
  xP Try.prog (sB .len #[35] #[(vs7.getD 0 undef)]) fun v164_190 =>
  xR Try.prog (sEq .eql 3 false v162_188 v164_190) w189 fun v165_191 =>
  xP Try.prog (sPick v159_187 v165_191 (.bool false)) fun v166_192 =>
  xIf v166_192 (
  xE Try.prog (sCall 3 #[]) w189 fun v168_193 w194 =>
  xP Try.prog (sPick v166_192 v168_193 (.bool false)) fun v169_195 =>
  R (.returned v169_195) w194) (
  xP Try.prog (sPick v166_192 undef (.bool false)) fun v169_196 =>
  R (.returned v169_196) w189)) (
  xP Try.prog (sPick v159_187 undef (.bool false)) fun v166_197 =>
  xIf v166_197 (
  xE Try.prog (sCall 3 #[]) w186 fun v168_198 w199 =>
  xP Try.prog (sPick v166_197 v168_198 (.bool false)) fun v169_200 =>
  R (.returned v169_200) w199) (
  xP Try.prog (sPick v166_197 undef (.bool false)) fun v169_201 =>
  R (.returned v169_201) w186)))))
theorem C_IndexPlays {a0 : Value} {a1 : Value} {a2 : Value} {a3 : Value} {w : World} {R : Ending → World → Prop} (h : S_IndexPlays a0 a1 a2 a3 w R) : Calls Try.prog 5 #[a0, a1, a2, a3] w R :=
  funcVC_sound (an := A_IndexPlays) (args := [a0, a1, a2, a3]) (k := 4) Try.func5 (by kernel_rfl) rfl
    (Eq.mp (show S_IndexPlays a0 a1 a2 a3 w R = funcVC Try.prog Try.f5 A_IndexPlays [a0, a1, a2, a3] w R by kernel_rfl) h)

/-- stave/stavelaw16.IndexMarks -/
def A_IndexMarks : Ann := (.seq .nil (.seq .nil (.seq (.join [27] .nil .nil) (.seq .nil (.seq (.seq .nil (.one (.loop [11, 12] (.seq (.join [35] .nil .nil) (.join [11] (.one (.join [13] (.draw (.pre [0, 1, 2, 3, 4, 5, 7, 8, 9, 10, 11] (.alt 6 (.pre [] (.alt 12 (.pre [13, 14, 15] .nil) (.op 14 (.pre [12, 13, 15] .nil)))) (.op 14 (.pre [6, 12, 13, 15] .nil)))) [0, 0, 0, 6, 14, 30, 62, 0, 0, 384, 896, 1920, 4094, 8191, 0, 32767]) .nil)) .nil))))) (.seq (.seq .nil (.one (.loop [14] (.seq (.join [79] .nil .nil) (.seq (.one (.seq (.draw (.pre [0, 1, 2, 3, 4, 5, 7, 8, 9, 10, 6, 11, 12, 13] .nil) [0, 0, 3, 7, 0, 16, 63, 0, 0, 384, 896, 2047, 4095, 8191]) (.seq .nil (.join [158] .nil .nil)))) .nil))))) .nil))))))
def S_IndexMarks (a0 : Value) (a1 : Value) (a2 : Value) (a3 : Value) (w : World) (R : Ending → World → Prop) : Prop :=
  xE Try.prog (sCall 8 #[a0]) w fun v19_1 w2 =>
  xE Try.prog (sCall 8 #[a1]) w2 fun v21_3 w4 =>
  xJoin (fun J5 =>
    xR Try.prog (sEq .eql 22 true v19_1 (.pointer none)) w4 fun v23_6 =>
    xIf v23_6 (
    xP Try.prog (sPick v23_6 (.bool true) undef) fun v27_7 =>
    J5 [v27_7] w4) (
    xR Try.prog (sEq .eql 22 true v21_3 (.pointer none)) w4 fun v26_8 =>
    xP Try.prog (sPick v23_6 (.bool true) v26_8) fun v27_9 =>
    J5 [v27_9] w4)) fun vs10 _ w12 =>
  xIf (vs10.getD 0 undef) (
    R (.returned (.bool false)) w12) (
    xLoop [(.int .i64 0), (.int .i64 0)] w12 fun J13 vs14 _ w16 =>
    xJoin (fun J17 =>
      xP Try.prog (sB .len #[34] #[a2]) fun v30_18 =>
      xP Try.prog (sBin .lss 3 (vs14.getD 1 undef) v30_18) fun v31_19 =>
      xIf v31_19 (
      xP Try.prog (sBin .lss 3 (vs14.getD 1 undef) (.int .i64 60)) fun v34_20 =>
      xP Try.prog (sPick v31_19 v34_20 (.bool false)) fun v35_21 =>
      J17 [v35_21] w16) (
      xP Try.prog (sPick v31_19 undef (.bool false)) fun v35_22 =>
      J17 [v35_22] w16)) fun vs23 _ w25 =>
    xIf (vs23.getD 0 undef) (
      xJoin (fun J26 =>
      xJoin (fun J27 =>
        xP Try.prog (sIA 34 a2 (vs14.getD 1 undef)) fun v41_28 =>
        xP Try.prog (sFA 37 v41_28 2) fun v42_29 =>
        xR Try.prog (sLoad 3 v42_29) (w25.drew) fun v43_30 =>
        xP Try.prog (sIA 34 a2 (vs14.getD 1 undef)) fun v47_31 =>
        xP Try.prog (sFA 37 v47_31 3) fun v48_32 =>
        xR Try.prog (sLoad 3 v48_32) (w25.drew) fun v49_33 =>
        (xE Try.prog (sCall 13 #[v43_30, (.int .i64 1), (.int .i64 8)]) (w25.drew) fun v44_34 w35 =>
        xStill Try.prog (sLoad 3 v48_32) v49_33 w35 <|
        (xE Try.prog (sCall 13 #[v49_33, (.int .i64 0), (.int .i64 50)]) w35 fun v50_36 w37 =>
        xP Try.prog (sBuild 26 #[(0, (vs14.getD 0 undef)), (1, v44_34), (2, v50_36)]) fun v51_38 =>
        xE Try.prog (sAlloc 26) w37 fun v13_39 w40 =>
        xE Try.prog (sStore 26 v13_39 v51_38) w40 fun _ w41 =>
        J27 [v13_39] w41) ∧
        (xE Try.prog (sAlloc 26) w35 fun v13_42 w43 =>
        xStill Try.prog (sLoad 3 v48_32) v49_33 w43 <|
        xE Try.prog (sCall 13 #[v49_33, (.int .i64 0), (.int .i64 50)]) w43 fun v50_44 w45 =>
        xP Try.prog (sBuild 26 #[(0, (vs14.getD 0 undef)), (1, v44_34), (2, v50_44)]) fun v51_46 =>
        xE Try.prog (sStore 26 v13_42 v51_46) w45 fun _ w47 =>
        J27 [v13_42] w47)) ∧
        (xE Try.prog (sAlloc 26) (w25.drew) fun v13_48 w49 =>
        xStill Try.prog (sLoad 3 v48_32) v49_33 w49 <|
        xStill Try.prog (sLoad 3 v42_29) v43_30 w49 <|
        xE Try.prog (sCall 13 #[v43_30, (.int .i64 1), (.int .i64 8)]) w49 fun v44_50 w51 =>
        xStill Try.prog (sLoad 3 v48_32) v49_33 w51 <|
        xE Try.prog (sCall 13 #[v49_33, (.int .i64 0), (.int .i64 50)]) w51 fun v50_52 w53 =>
        xP Try.prog (sBuild 26 #[(0, (vs14.getD 0 undef)), (1, v44_50), (2, v50_52)]) fun v51_54 =>
        xE Try.prog (sStore 26 v13_48 v51_54) w53 fun _ w55 =>
        J27 [v13_48] w55)) fun vs56 _ w58 =>
      xP Try.prog (sFA 26 (vs56.getD 0 undef) 1) fun v53_59 =>
      xR Try.prog (sLoad 3 v53_59) w58 fun v54_60 =>
      xP Try.prog (sBin .add 3 (vs14.getD 0 undef) v54_60) fun v55_61 =>
      xR Try.prog (sLoad 26 (vs56.getD 0 undef)) w58 fun v57_62 =>
      xE Try.prog (sCall 9 #[v19_1, v57_62]) w58 fun _ w64 =>
      xR Try.prog (sLoad 26 (vs56.getD 0 undef)) w64 fun v60_65 =>
      xE Try.prog (sCall 9 #[v21_3, v60_65]) w64 fun _ w67 =>
      xP Try.prog (sIA 34 a2 (vs14.getD 1 undef)) fun v64_68 =>
      xP Try.prog (sFA 37 v64_68 0) fun v65_69 =>
      xR Try.prog (sLoad 3 v65_69) w67 fun v66_70 =>
      xR Try.prog (sEq .eql 3 true v66_70 (.int .i64 2)) w67 fun v67_71 =>
      xIf v67_71 (
        xE Try.prog (sCall 15 #[v19_1, (.int .i64 1)]) w67 fun _ w73 =>
        xE Try.prog (sCall 15 #[v21_3, (.int .i64 1)]) w73 fun _ w75 =>
        J26 [v55_61] w75) (
        J26 [v55_61] w67)) fun vs76 _ w78 =>
    xP Try.prog (sBin .add 3 (vs14.getD 1 undef) (.int .i64 1)) fun v37_79 =>
    J13 [(vs76.getD 0 undef), v37_79] w78) (
      xLoop [(.int .i64 0)] w25 fun J80 vs81 _ w83 =>
    xJoin (fun J84 =>
      xP Try.prog (sB .len #[28] #[a3]) fun v74_85 =>
      xP Try.prog (sBin .lss 3 (vs81.getD 0 undef) v74_85) fun v75_86 =>
      xIf v75_86 (
      xP Try.prog (sBin .lss 3 (vs81.getD 0 undef) (.int .i64 20)) fun v78_87 =>
      xP Try.prog (sPick v75_86 v78_87 (.bool false)) fun v79_88 =>
      J84 [v79_88] w83) (
      xP Try.prog (sPick v75_86 undef (.bool false)) fun v79_89 =>
      J84 [v79_89] w83)) fun vs90 _ w92 =>
    xIf (vs90.getD 0 undef) (
      xP Try.prog (sIA 28 a3 (vs81.getD 0 undef)) fun v84_93 =>
    xR Try.prog (sLoad 3 v84_93) (w92.drew) fun v85_94 =>
    xP Try.prog (sBin .add 3 (vs14.getD 0 undef) (.int .i64 5)) fun v87_95 =>
    xP Try.prog (sIA 28 a3 (vs81.getD 0 undef)) fun v91_96 =>
    xR Try.prog (sLoad 3 v91_96) (w92.drew) fun v92_97 =>
    xE Try.prog (sCall 13 #[v85_94, (.int .i64 0), v87_95]) (w92.drew) fun v88_98 w99 =>
    xStill Try.prog (sLoad 3 v91_96) v92_97 w99 <|
    xE Try.prog (sCall 13 #[v92_97, (.int .i64 0), (.int .i64 52)]) w99 fun v93_100 w101 =>
    xE Try.prog (sCall 10 #[v19_1, v88_98]) w101 fun v96_102 w103 =>
    xJoin (fun J104 =>
      xE Try.prog (sCall 10 #[v21_3, v88_98]) w103 fun v100_105 w106 =>
      xR Try.prog (sEq .neq 3 false v96_102 v100_105) w106 fun v101_107 =>
      xIf v101_107 (
      xP Try.prog (sPick v101_107 (.bool true) undef) fun v110_108 =>
      xIf v110_108 (
      xP Try.prog (sPick v110_108 (.bool true) undef) fun v114_109 =>
      xIf v114_109 (
      xP Try.prog (sPick v114_109 (.bool true) undef) fun v120_110 =>
      xIf v120_110 (
      xP Try.prog (sPick v120_110 (.bool true) undef) fun v139_111 =>
      xIf v139_111 (
      xP Try.prog (sPick v139_111 (.bool true) undef) fun v158_112 =>
      J104 [v158_112] w106) (
      xP Try.prog (sBin .gtr 3 v96_102 (.int .i64 0)) fun v142_113 =>
      xIf v142_113 (
      xP Try.prog (sBin .sub 3 v96_102 (.int .i64 1)) fun v146_114 =>
      xE Try.prog (sCall 14 #[v19_1, v146_114]) w106 fun v147_115 w116 =>
      xP Try.prog (sField 26 v147_115 0) fun v148_117 =>
      xP Try.prog (sBin .sub 3 v96_102 (.int .i64 1)) fun v151_118 =>
      xE Try.prog (sCall 14 #[v19_1, v151_118]) w116 fun v152_119 w120 =>
      xP Try.prog (sField 26 v152_119 1) fun v153_121 =>
      xP Try.prog (sBin .add 3 v148_117 v153_121) fun v154_122 =>
      xP Try.prog (sBin .gtr 3 v154_122 v88_98) fun v156_123 =>
      xP Try.prog (sPick v142_113 v156_123 (.bool false)) fun v157_124 =>
      xP Try.prog (sPick v139_111 (.bool true) v157_124) fun v158_125 =>
      J104 [v158_125] w120) (
      xP Try.prog (sPick v142_113 undef (.bool false)) fun v157_126 =>
      xP Try.prog (sPick v139_111 (.bool true) v157_126) fun v158_127 =>
      J104 [v158_127] w106))) (
      xE Try.prog (sCall 16 #[v19_1]) w106 fun v124_128 w129 =>
      xP Try.prog (sBin .lss 3 v96_102 v124_128) fun v125_130 =>
      xIf v125_130 (
      xE Try.prog (sCall 14 #[v19_1, v96_102]) w129 fun v129_131 w132 =>
      xP Try.prog (sField 26 v129_131 0) fun v130_133 =>
      xE Try.prog (sCall 14 #[v19_1, v96_102]) w132 fun v133_134 w135 =>
      xP Try.prog (sField 26 v133_134 1) fun v134_136 =>
      xP Try.prog (sBin .add 3 v130_133 v134_136) fun v135_137 =>
      xP Try.prog (sBin .leq 3 v135_137 v88_98) fun v137_138 =>
      xP Try.prog (sPick v125_130 v137_138 (.bool false)) fun v138_139 =>
      xP Try.prog (sPick v120_110 (.bool true) v138_139) fun v139_140 =>
      xIf v139_140 (
      xP Try.prog (sPick v139_140 (.bool true) undef) fun v158_141 =>
      J104 [v158_141] w135) (
      xP Try.prog (sBin .gtr 3 v96_102 (.int .i64 0)) fun v142_142 =>
      xIf v142_142 (
      xP Try.prog (sBin .sub 3 v96_102 (.int .i64 1)) fun v146_143 =>
      xE Try.prog (sCall 14 #[v19_1, v146_143]) w135 fun v147_144 w145 =>
      xP Try.prog (sField 26 v147_144 0) fun v148_146 =>
      xP Try.prog (sBin .sub 3 v96_102 (.int .i64 1)) fun v151_147 =>
      xE Try.prog (sCall 14 #[v19_1, v151_147]) w145 fun v152_148 w149 =>
      xP Try.prog (sField 26 v152_148 1) fun v153_150 =>
      xP Try.prog (sBin .add 3 v148_146 v153_150) fun v154_151 =>
      xP Try.prog (sBin .gtr 3 v154_151 v88_98) fun v156_152 =>
      xP Try.prog (sPick v142_142 v156_152 (.bool false)) fun v157_153 =>
      xP Try.prog (sPick v139_140 (.bool true) v157_153) fun v158_154 =>
      J104 [v158_154] w149) (
      xP Try.prog (sPick v142_142 undef (.bool false)) fun v157_155 =>
      xP Try.prog (sPick v139_140 (.bool true) v157_155) fun v158_156 =>
      J104 [v158_156] w135))) (
      xP Try.prog (sPick v125_130 undef (.bool false)) fun v138_157 =>
      xP Try.prog (sPick v120_110 (.bool true) v138_157) fun v139_158 =>
      xIf v139_158 (
      xP Try.prog (sPick v139_158 (.bool true) undef) fun v158_159 =>
      J104 [v158_159] w129) (
      xP Try.prog (sBin .gtr 3 v96_102 (.int .i64 0)) fun v142_160 =>
      xIf v142_160 (
      xP Try.prog (sBin .sub 3 v96_102 (.int .i64 1)) fun v146_161 =>
      xE Try.prog (sCall 14 #[v19_1, v146_161]) w129 fun v147_162 w163 =>
      xP Try.prog (sField 26 v147_162 0) fun v148_164 =>
      xP Try.prog (sBin .sub 3 v96_102 (.int .i64 1)) fun v151_165 =>
      xE Try.prog (sCall 14 #[v19_1, v151_165]) w163 fun v152_166 w167 =>
      xP Try.prog (sField 26 v152_166 1) fun v153_168 =>
      xP Try.prog (sBin .add 3 v148_164 v153_168) fun v154_169 =>
      xP Try.prog (sBin .gtr 3 v154_169 v88_98) fun v156_170 =>
      xP Try.prog (sPick v142_160 v156_170 (.bool false)) fun v157_171 =>
      xP Try.prog (sPick v139_158 (.bool true) v157_171) fun v158_172 =>
      J104 [v158_172] w167) (
      xP Try.prog (sPick v142_160 undef (.bool false)) fun v157_173 =>
      xP Try.prog (sPick v139_158 (.bool true) v157_173) fun v158_174 =>
      J104 [v158_174] w129))))) (
      xE Try.prog (sCall 16 #[v19_1]) w106 fun v118_175 w176 =>
      xP Try.prog (sBin .gtr 3 v96_102 v118_175) fun v119_177 =>
      xP Try.prog (sPick v114_109 (.bool true) v119_177) fun v120_178 =>
      xIf v120_178 (
      xP Try.prog (sPick v120_178 (.bool true) undef) fun v139_179 =>
      xIf v139_179 (
      xP Try.prog (sPick v139_179 (.bool true) undef) fun v158_180 =>
      J104 [v158_180] w176) (
      xP Try.prog (sBin .gtr 3 v96_102 (.int .i64 0)) fun v142_181 =>
      xIf v142_181 (
      xP Try.prog (sBin .sub 3 v96_102 (.int .i64 1)) fun v146_182 =>
      xE Try.prog (sCall 14 #[v19_1, v146_182]) w176 fun v147_183 w184 =>
      xP Try.prog (sField 26 v147_183 0) fun v148_185 =>
      xP Try.prog (sBin .sub 3 v96_102 (.int .i64 1)) fun v151_186 =>
      xE Try.prog (sCall 14 #[v19_1, v151_186]) w184 fun v152_187 w188 =>
      xP Try.prog (sField 26 v152_187 1) fun v153_189 =>
      xP Try.prog (sBin .add 3 v148_185 v153_189) fun v154_190 =>
      xP Try.prog (sBin .gtr 3 v154_190 v88_98) fun v156_191 =>
      xP Try.prog (sPick v142_181 v156_191 (.bool false)) fun v157_192 =>
      xP Try.prog (sPick v139_179 (.bool true) v157_192) fun v158_193 =>
      J104 [v158_193] w188) (
      xP Try.prog (sPick v142_181 undef (.bool false)) fun v157_194 =>
      xP Try.prog (sPick v139_179 (.bool true) v157_194) fun v158_195 =>
      J104 [v158_195] w176))) (
      xE Try.prog (sCall 16 #[v19_1]) w176 fun v124_196 w197 =>
      xP Try.prog (sBin .lss 3 v96_102 v124_196) fun v125_198 =>
      xIf v125_198 (
      xE Try.prog (sCall 14 #[v19_1, v96_102]) w197 fun v129_199 w200 =>
      xP Try.prog (sField 26 v129_199 0) fun v130_201 =>
      xE Try.prog (sCall 14 #[v19_1, v96_102]) w200 fun v133_202 w203 =>
      xP Try.prog (sField 26 v133_202 1) fun v134_204 =>
      xP Try.prog (sBin .add 3 v130_201 v134_204) fun v135_205 =>
      xP Try.prog (sBin .leq 3 v135_205 v88_98) fun v137_206 =>
      xP Try.prog (sPick v125_198 v137_206 (.bool false)) fun v138_207 =>
      xP Try.prog (sPick v120_178 (.bool true) v138_207) fun v139_208 =>
      xIf v139_208 (
      xP Try.prog (sPick v139_208 (.bool true) undef) fun v158_209 =>
      J104 [v158_209] w203) (
      xP Try.prog (sBin .gtr 3 v96_102 (.int .i64 0)) fun v142_210 =>
      xIf v142_210 (
      xP Try.prog (sBin .sub 3 v96_102 (.int .i64 1)) fun v146_211 =>
      xE Try.prog (sCall 14 #[v19_1, v146_211]) w203 fun v147_212 w213 =>
      xP Try.prog (sField 26 v147_212 0) fun v148_214 =>
      xP Try.prog (sBin .sub 3 v96_102 (.int .i64 1)) fun v151_215 =>
      xE Try.prog (sCall 14 #[v19_1, v151_215]) w213 fun v152_216 w217 =>
      xP Try.prog (sField 26 v152_216 1) fun v153_218 =>
      xP Try.prog (sBin .add 3 v148_214 v153_218) fun v154_219 =>
      xP Try.prog (sBin .gtr 3 v154_219 v88_98) fun v156_220 =>
      xP Try.prog (sPick v142_210 v156_220 (.bool false)) fun v157_221 =>
      xP Try.prog (sPick v139_208 (.bool true) v157_221) fun v158_222 =>
      J104 [v158_222] w217) (
      xP Try.prog (sPick v142_210 undef (.bool false)) fun v157_223 =>
      xP Try.prog (sPick v139_208 (.bool true) v157_223) fun v158_224 =>
      J104 [v158_224] w203))) (
      xP Try.prog (sPick v125_198 undef (.bool false)) fun v138_225 =>
      xP Try.prog (sPick v120_178 (.bool true) v138_225) fun v139_226 =>
      xIf v139_226 (
      xP Try.prog (sPick v139_226 (.bool true) undef) fun v158_227 =>
      J104 [v158_227] w197) (
      xP Try.prog (sBin .gtr 3 v96_102 (.int .i64 0)) fun v142_228 =>
      xIf v142_228 (
      xP Try.prog (sBin .sub 3 v96_102 (.int .i64 1)) fun v146_229 =>
      xE Try.prog (sCall 14 #[v19_1, v146_229]) w197 fun v147_230 w231 =>
      xP Try.prog (sField 26 v147_230 0) fun v148_232 =>
      xP Try.prog (sBin .sub 3 v96_102 (.int .i64 1)) fun v151_233 =>
      xE Try.prog (sCall 14 #[v19_1, v151_233]) w231 fun v152_234 w235 =>
      xP Try.prog (sField 26 v152_234 1) fun v153_236 =>
      xP Try.prog (sBin .add 3 v148_232 v153_236) fun v154_237 =>
      xP Try.prog (sBin .gtr 3 v154_237 v88_98) fun v156_238 =>
      xP Try.prog (sPick v142_228 v156_238 (.bool false)) fun v157_239 =>
      xP Try.prog (sPick v139_226 (.bool true) v157_239) fun v158_240 =>
      J104 [v158_240] w235) (
      xP Try.prog (sPick v142_228 undef (.bool false)) fun v157_241 =>
      xP Try.prog (sPick v139_226 (.bool true) v157_241) fun v158_242 =>
      J104 [v158_242] w197)))))) (
      xP Try.prog (sBin .lss 3 v96_102 (.int .i64 0)) fun v113_243 =>
      xP Try.prog (sPick v110_108 (.bool true) v113_243) fun v114_244 =>
      xIf v114_244 (
      xP Try.prog (sPick v114_244 (.bool true) undef) fun v120_245 =>
      xIf v120_245 (
      xP Try.prog (sPick v120_245 (.bool true) undef) fun v139_246 =>
      xIf v139_246 (
      xP Try.prog (sPick v139_246 (.bool true) undef) fun v158_247 =>
      J104 [v158_247] w106) (
      xP Try.prog (sBin .gtr 3 v96_102 (.int .i64 0)) fun v142_248 =>
      xIf v142_248 (
      xP Try.prog (sBin .sub 3 v96_102 (.int .i64 1)) fun v146_249 =>
      xE Try.prog (sCall 14 #[v19_1, v146_249]) w106 fun v147_250 w251 =>
      xP Try.prog (sField 26 v147_250 0) fun v148_252 =>
      xP Try.prog (sBin .sub 3 v96_102 (.int .i64 1)) fun v151_253 =>
      xE Try.prog (sCall 14 #[v19_1, v151_253]) w251 fun v152_254 w255 =>
      xP Try.prog (sField 26 v152_254 1) fun v153_256 =>
      xP Try.prog (sBin .add 3 v148_252 v153_256) fun v154_257 =>
      xP Try.prog (sBin .gtr 3 v154_257 v88_98) fun v156_258 =>
      xP Try.prog (sPick v142_248 v156_258 (.bool false)) fun v157_259 =>
      xP Try.prog (sPick v139_246 (.bool true) v157_259) fun v158_260 =>
      J104 [v158_260] w255) (
      xP Try.prog (sPick v142_248 undef (.bool false)) fun v157_261 =>
      xP Try.prog (sPick v139_246 (.bool true) v157_261) fun v158_262 =>
      J104 [v158_262] w106))) (
      xE Try.prog (sCall 16 #[v19_1]) w106 fun v124_263 w264 =>
      xP Try.prog (sBin .lss 3 v96_102 v124_263) fun v125_265 =>
      xIf v125_265 (
      xE Try.prog (sCall 14 #[v19_1, v96_102]) w264 fun v129_266 w267 =>
      xP Try.prog (sField 26 v129_266 0) fun v130_268 =>
      xE Try.prog (sCall 14 #[v19_1, v96_102]) w267 fun v133_269 w270 =>
      xP Try.prog (sField 26 v133_269 1) fun v134_271 =>
      xP Try.prog (sBin .add 3 v130_268 v134_271) fun v135_272 =>
      xP Try.prog (sBin .leq 3 v135_272 v88_98) fun v137_273 =>
      xP Try.prog (sPick v125_265 v137_273 (.bool false)) fun v138_274 =>
      xP Try.prog (sPick v120_245 (.bool true) v138_274) fun v139_275 =>
      xIf v139_275 (
      xP Try.prog (sPick v139_275 (.bool true) undef) fun v158_276 =>
      J104 [v158_276] w270) (
      xP Try.prog (sBin .gtr 3 v96_102 (.int .i64 0)) fun v142_277 =>
      xIf v142_277 (
      xP Try.prog (sBin .sub 3 v96_102 (.int .i64 1)) fun v146_278 =>
      xE Try.prog (sCall 14 #[v19_1, v146_278]) w270 fun v147_279 w280 =>
      xP Try.prog (sField 26 v147_279 0) fun v148_281 =>
      xP Try.prog (sBin .sub 3 v96_102 (.int .i64 1)) fun v151_282 =>
      xE Try.prog (sCall 14 #[v19_1, v151_282]) w280 fun v152_283 w284 =>
      xP Try.prog (sField 26 v152_283 1) fun v153_285 =>
      xP Try.prog (sBin .add 3 v148_281 v153_285) fun v154_286 =>
      xP Try.prog (sBin .gtr 3 v154_286 v88_98) fun v156_287 =>
      xP Try.prog (sPick v142_277 v156_287 (.bool false)) fun v157_288 =>
      xP Try.prog (sPick v139_275 (.bool true) v157_288) fun v158_289 =>
      J104 [v158_289] w284) (
      xP Try.prog (sPick v142_277 undef (.bool false)) fun v157_290 =>
      xP Try.prog (sPick v139_275 (.bool true) v157_290) fun v158_291 =>
      J104 [v158_291] w270))) (
      xP Try.prog (sPick v125_265 undef (.bool false)) fun v138_292 =>
      xP Try.prog (sPick v120_245 (.bool true) v138_292) fun v139_293 =>
      xIf v139_293 (
      xP Try.prog (sPick v139_293 (.bool true) undef) fun v158_294 =>
      J104 [v158_294] w264) (
      xP Try.prog (sBin .gtr 3 v96_102 (.int .i64 0)) fun v142_295 =>
      xIf v142_295 (
      xP Try.prog (sBin .sub 3 v96_102 (.int .i64 1)) fun v146_296 =>
      xE Try.prog (sCall 14 #[v19_1, v146_296]) w264 fun v147_297 w298 =>
      xP Try.prog (sField 26 v147_297 0) fun v148_299 =>
      xP Try.prog (sBin .sub 3 v96_102 (.int .i64 1)) fun v151_300 =>
      xE Try.prog (sCall 14 #[v19_1, v151_300]) w298 fun v152_301 w302 =>
      xP Try.prog (sField 26 v152_301 1) fun v153_303 =>
      xP Try.prog (sBin .add 3 v148_299 v153_303) fun v154_304 =>
      xP Try.prog (sBin .gtr 3 v154_304 v88_98) fun v156_305 =>
      xP Try.prog (sPick v142_295 v156_305 (.bool false)) fun v157_306 =>
      xP Try.prog (sPick v139_293 (.bool true) v157_306) fun v158_307 =>
      J104 [v158_307] w302) (
      xP Try.prog (sPick v142_295 undef (.bool false)) fun v157_308 =>
      xP Try.prog (sPick v139_293 (.bool true) v157_308) fun v158_309 =>
      J104 [v158_309] w264))))) (
      xE Try.prog (sCall 16 #[v19_1]) w106 fun v118_310 w311 =>
      xP Try.prog (sBin .gtr 3 v96_102 v118_310) fun v119_312 =>
      xP Try.prog (sPick v114_244 (.bool true) v119_312) fun v120_313 =>
      xIf v120_313 (
      xP Try.prog (sPick v120_313 (.bool true) undef) fun v139_314 =>
      xIf v139_314 (
      xP Try.prog (sPick v139_314 (.bool true) undef) fun v158_315 =>
      J104 [v158_315] w311) (
      xP Try.prog (sBin .gtr 3 v96_102 (.int .i64 0)) fun v142_316 =>
      xIf v142_316 (
      xP Try.prog (sBin .sub 3 v96_102 (.int .i64 1)) fun v146_317 =>
      xE Try.prog (sCall 14 #[v19_1, v146_317]) w311 fun v147_318 w319 =>
      xP Try.prog (sField 26 v147_318 0) fun v148_320 =>
      xP Try.prog (sBin .sub 3 v96_102 (.int .i64 1)) fun v151_321 =>
      xE Try.prog (sCall 14 #[v19_1, v151_321]) w319 fun v152_322 w323 =>
      xP Try.prog (sField 26 v152_322 1) fun v153_324 =>
      xP Try.prog (sBin .add 3 v148_320 v153_324) fun v154_325 =>
      xP Try.prog (sBin .gtr 3 v154_325 v88_98) fun v156_326 =>
      xP Try.prog (sPick v142_316 v156_326 (.bool false)) fun v157_327 =>
      xP Try.prog (sPick v139_314 (.bool true) v157_327) fun v158_328 =>
      J104 [v158_328] w323) (
      xP Try.prog (sPick v142_316 undef (.bool false)) fun v157_329 =>
      xP Try.prog (sPick v139_314 (.bool true) v157_329) fun v158_330 =>
      J104 [v158_330] w311))) (
      xE Try.prog (sCall 16 #[v19_1]) w311 fun v124_331 w332 =>
      xP Try.prog (sBin .lss 3 v96_102 v124_331) fun v125_333 =>
      xIf v125_333 (
      xE Try.prog (sCall 14 #[v19_1, v96_102]) w332 fun v129_334 w335 =>
      xP Try.prog (sField 26 v129_334 0) fun v130_336 =>
      xE Try.prog (sCall 14 #[v19_1, v96_102]) w335 fun v133_337 w338 =>
      xP Try.prog (sField 26 v133_337 1) fun v134_339 =>
      xP Try.prog (sBin .add 3 v130_336 v134_339) fun v135_340 =>
      xP Try.prog (sBin .leq 3 v135_340 v88_98) fun v137_341 =>
      xP Try.prog (sPick v125_333 v137_341 (.bool false)) fun v138_342 =>
      xP Try.prog (sPick v120_313 (.bool true) v138_342) fun v139_343 =>
      xIf v139_343 (
      xP Try.prog (sPick v139_343 (.bool true) undef) fun v158_344 =>
      J104 [v158_344] w338) (
      xP Try.prog (sBin .gtr 3 v96_102 (.int .i64 0)) fun v142_345 =>
      xIf v142_345 (
      xP Try.prog (sBin .sub 3 v96_102 (.int .i64 1)) fun v146_346 =>
      xE Try.prog (sCall 14 #[v19_1, v146_346]) w338 fun v147_347 w348 =>
      xP Try.prog (sField 26 v147_347 0) fun v148_349 =>
      xP Try.prog (sBin .sub 3 v96_102 (.int .i64 1)) fun v151_350 =>
      xE Try.prog (sCall 14 #[v19_1, v151_350]) w348 fun v152_351 w352 =>
      xP Try.prog (sField 26 v152_351 1) fun v153_353 =>
      xP Try.prog (sBin .add 3 v148_349 v153_353) fun v154_354 =>
      xP Try.prog (sBin .gtr 3 v154_354 v88_98) fun v156_355 =>
      xP Try.prog (sPick v142_345 v156_355 (.bool false)) fun v157_356 =>
      xP Try.prog (sPick v139_343 (.bool true) v157_356) fun v158_357 =>
      J104 [v158_357] w352) (
      xP Try.prog (sPick v142_345 undef (.bool false)) fun v157_358 =>
      xP Try.prog (sPick v139_343 (.bool true) v157_358) fun v158_359 =>
      J104 [v158_359] w338))) (
      xP Try.prog (sPick v125_333 undef (.bool false)) fun v138_360 =>
      xP Try.prog (sPick v120_313 (.bool true) v138_360) fun v139_361 =>
      xIf v139_361 (
      xP Try.prog (sPick v139_361 (.bool true) undef) fun v158_362 =>
      J104 [v158_362] w332) (
      xP Try.prog (sBin .gtr 3 v96_102 (.int .i64 0)) fun v142_363 =>
      xIf v142_363 (
      xP Try.prog (sBin .sub 3 v96_102 (.int .i64 1)) fun v146_364 =>
      xE Try.prog (sCall 14 #[v19_1, v146_364]) w332 fun v147_365 w366 =>
      xP Try.prog (sField 26 v147_365 0) fun v148_367 =>
      xP Try.prog (sBin .sub 3 v96_102 (.int .i64 1)) fun v151_368 =>
      xE Try.prog (sCall 14 #[v19_1, v151_368]) w366 fun v152_369 w370 =>
      xP Try.prog (sField 26 v152_369 1) fun v153_371 =>
      xP Try.prog (sBin .add 3 v148_367 v153_371) fun v154_372 =>
      xP Try.prog (sBin .gtr 3 v154_372 v88_98) fun v156_373 =>
      xP Try.prog (sPick v142_363 v156_373 (.bool false)) fun v157_374 =>
      xP Try.prog (sPick v139_361 (.bool true) v157_374) fun v158_375 =>
      J104 [v158_375] w370) (
      xP Try.prog (sPick v142_363 undef (.bool false)) fun v157_376 =>
      xP Try.prog (sPick v139_361 (.bool true) v157_376) fun v158_377 =>
      J104 [v158_377] w332))))))) (
      xE Try.prog (sCall 11 #[v19_1, v93_100]) w106 fun v105_378 w379 =>
      xE Try.prog (sCall 11 #[v21_3, v93_100]) w379 fun v108_380 w381 =>
      xR Try.prog (sEq .neq 3 false v105_378 v108_380) w381 fun v109_382 =>
      xP Try.prog (sPick v101_107 (.bool true) v109_382) fun v110_383 =>
      xIf v110_383 (
      xP Try.prog (sPick v110_383 (.bool true) undef) fun v114_384 =>
      xIf v114_384 (
      xP Try.prog (sPick v114_384 (.bool true) undef) fun v120_385 =>
      xIf v120_385 (
      xP Try.prog (sPick v120_385 (.bool true) undef) fun v139_386 =>
      xIf v139_386 (
      xP Try.prog (sPick v139_386 (.bool true) undef) fun v158_387 =>
      J104 [v158_387] w381) (
      xP Try.prog (sBin .gtr 3 v96_102 (.int .i64 0)) fun v142_388 =>
      xIf v142_388 (
      xP Try.prog (sBin .sub 3 v96_102 (.int .i64 1)) fun v146_389 =>
      xE Try.prog (sCall 14 #[v19_1, v146_389]) w381 fun v147_390 w391 =>
      xP Try.prog (sField 26 v147_390 0) fun v148_392 =>
      xP Try.prog (sBin .sub 3 v96_102 (.int .i64 1)) fun v151_393 =>
      xE Try.prog (sCall 14 #[v19_1, v151_393]) w391 fun v152_394 w395 =>
      xP Try.prog (sField 26 v152_394 1) fun v153_396 =>
      xP Try.prog (sBin .add 3 v148_392 v153_396) fun v154_397 =>
      xP Try.prog (sBin .gtr 3 v154_397 v88_98) fun v156_398 =>
      xP Try.prog (sPick v142_388 v156_398 (.bool false)) fun v157_399 =>
      xP Try.prog (sPick v139_386 (.bool true) v157_399) fun v158_400 =>
      J104 [v158_400] w395) (
      xP Try.prog (sPick v142_388 undef (.bool false)) fun v157_401 =>
      xP Try.prog (sPick v139_386 (.bool true) v157_401) fun v158_402 =>
      J104 [v158_402] w381))) (
      xE Try.prog (sCall 16 #[v19_1]) w381 fun v124_403 w404 =>
      xP Try.prog (sBin .lss 3 v96_102 v124_403) fun v125_405 =>
      xIf v125_405 (
      xE Try.prog (sCall 14 #[v19_1, v96_102]) w404 fun v129_406 w407 =>
      xP Try.prog (sField 26 v129_406 0) fun v130_408 =>
      xE Try.prog (sCall 14 #[v19_1, v96_102]) w407 fun v133_409 w410 =>
      xP Try.prog (sField 26 v133_409 1) fun v134_411 =>
      xP Try.prog (sBin .add 3 v130_408 v134_411) fun v135_412 =>
      xP Try.prog (sBin .leq 3 v135_412 v88_98) fun v137_413 =>
      xP Try.prog (sPick v125_405 v137_413 (.bool false)) fun v138_414 =>
      xP Try.prog (sPick v120_385 (.bool true) v138_414) fun v139_415 =>
      xIf v139_415 (
      xP Try.prog (sPick v139_415 (.bool true) undef) fun v158_416 =>
      J104 [v158_416] w410) (
      xP Try.prog (sBin .gtr 3 v96_102 (.int .i64 0)) fun v142_417 =>
      xIf v142_417 (
      xP Try.prog (sBin .sub 3 v96_102 (.int .i64 1)) fun v146_418 =>
      xE Try.prog (sCall 14 #[v19_1, v146_418]) w410 fun v147_419 w420 =>
      xP Try.prog (sField 26 v147_419 0) fun v148_421 =>
      xP Try.prog (sBin .sub 3 v96_102 (.int .i64 1)) fun v151_422 =>
      xE Try.prog (sCall 14 #[v19_1, v151_422]) w420 fun v152_423 w424 =>
      xP Try.prog (sField 26 v152_423 1) fun v153_425 =>
      xP Try.prog (sBin .add 3 v148_421 v153_425) fun v154_426 =>
      xP Try.prog (sBin .gtr 3 v154_426 v88_98) fun v156_427 =>
      xP Try.prog (sPick v142_417 v156_427 (.bool false)) fun v157_428 =>
      xP Try.prog (sPick v139_415 (.bool true) v157_428) fun v158_429 =>
      J104 [v158_429] w424) (
      xP Try.prog (sPick v142_417 undef (.bool false)) fun v157_430 =>
      xP Try.prog (sPick v139_415 (.bool true) v157_430) fun v158_431 =>
      J104 [v158_431] w410))) (
      xP Try.prog (sPick v125_405 undef (.bool false)) fun v138_432 =>
      xP Try.prog (sPick v120_385 (.bool true) v138_432) fun v139_433 =>
      xIf v139_433 (
      xP Try.prog (sPick v139_433 (.bool true) undef) fun v158_434 =>
      J104 [v158_434] w404) (
      xP Try.prog (sBin .gtr 3 v96_102 (.int .i64 0)) fun v142_435 =>
      xIf v142_435 (
      xP Try.prog (sBin .sub 3 v96_102 (.int .i64 1)) fun v146_436 =>
      xE Try.prog (sCall 14 #[v19_1, v146_436]) w404 fun v147_437 w438 =>
      xP Try.prog (sField 26 v147_437 0) fun v148_439 =>
      xP Try.prog (sBin .sub 3 v96_102 (.int .i64 1)) fun v151_440 =>
      xE Try.prog (sCall 14 #[v19_1, v151_440]) w438 fun v152_441 w442 =>
      xP Try.prog (sField 26 v152_441 1) fun v153_443 =>
      xP Try.prog (sBin .add 3 v148_439 v153_443) fun v154_444 =>
      xP Try.prog (sBin .gtr 3 v154_444 v88_98) fun v156_445 =>
      xP Try.prog (sPick v142_435 v156_445 (.bool false)) fun v157_446 =>
      xP Try.prog (sPick v139_433 (.bool true) v157_446) fun v158_447 =>
      J104 [v158_447] w442) (
      xP Try.prog (sPick v142_435 undef (.bool false)) fun v157_448 =>
      xP Try.prog (sPick v139_433 (.bool true) v157_448) fun v158_449 =>
      J104 [v158_449] w404))))) (
      xE Try.prog (sCall 16 #[v19_1]) w381 fun v118_450 w451 =>
      xP Try.prog (sBin .gtr 3 v96_102 v118_450) fun v119_452 =>
      xP Try.prog (sPick v114_384 (.bool true) v119_452) fun v120_453 =>
      xIf v120_453 (
      xP Try.prog (sPick v120_453 (.bool true) undef) fun v139_454 =>
      xIf v139_454 (
      xP Try.prog (sPick v139_454 (.bool true) undef) fun v158_455 =>
      J104 [v158_455] w451) (
      xP Try.prog (sBin .gtr 3 v96_102 (.int .i64 0)) fun v142_456 =>
      xIf v142_456 (
      xP Try.prog (sBin .sub 3 v96_102 (.int .i64 1)) fun v146_457 =>
      xE Try.prog (sCall 14 #[v19_1, v146_457]) w451 fun v147_458 w459 =>
      xP Try.prog (sField 26 v147_458 0) fun v148_460 =>
      xP Try.prog (sBin .sub 3 v96_102 (.int .i64 1)) fun v151_461 =>
      xE Try.prog (sCall 14 #[v19_1, v151_461]) w459 fun v152_462 w463 =>
      xP Try.prog (sField 26 v152_462 1) fun v153_464 =>
      xP Try.prog (sBin .add 3 v148_460 v153_464) fun v154_465 =>
      xP Try.prog (sBin .gtr 3 v154_465 v88_98) fun v156_466 =>
      xP Try.prog (sPick v142_456 v156_466 (.bool false)) fun v157_467 =>
      xP Try.prog (sPick v139_454 (.bool true) v157_467) fun v158_468 =>
      J104 [v158_468] w463) (
      xP Try.prog (sPick v142_456 undef (.bool false)) fun v157_469 =>
      xP Try.prog (sPick v139_454 (.bool true) v157_469) fun v158_470 =>
      J104 [v158_470] w451))) (
      xE Try.prog (sCall 16 #[v19_1]) w451 fun v124_471 w472 =>
      xP Try.prog (sBin .lss 3 v96_102 v124_471) fun v125_473 =>
      xIf v125_473 (
      xE Try.prog (sCall 14 #[v19_1, v96_102]) w472 fun v129_474 w475 =>
      xP Try.prog (sField 26 v129_474 0) fun v130_476 =>
      xE Try.prog (sCall 14 #[v19_1, v96_102]) w475 fun v133_477 w478 =>
      xP Try.prog (sField 26 v133_477 1) fun v134_479 =>
      xP Try.prog (sBin .add 3 v130_476 v134_479) fun v135_480 =>
      xP Try.prog (sBin .leq 3 v135_480 v88_98) fun v137_481 =>
      xP Try.prog (sPick v125_473 v137_481 (.bool false)) fun v138_482 =>
      xP Try.prog (sPick v120_453 (.bool true) v138_482) fun v139_483 =>
      xIf v139_483 (
      xP Try.prog (sPick v139_483 (.bool true) undef) fun v158_484 =>
      J104 [v158_484] w478) (
      xP Try.prog (sBin .gtr 3 v96_102 (.int .i64 0)) fun v142_485 =>
      xIf v142_485 (
      xP Try.prog (sBin .sub 3 v96_102 (.int .i64 1)) fun v146_486 =>
      xE Try.prog (sCall 14 #[v19_1, v146_486]) w478 fun v147_487 w488 =>
      xP Try.prog (sField 26 v147_487 0) fun v148_489 =>
      xP Try.prog (sBin .sub 3 v96_102 (.int .i64 1)) fun v151_490 =>
      xE Try.prog (sCall 14 #[v19_1, v151_490]) w488 fun v152_491 w492 =>
      xP Try.prog (sField 26 v152_491 1) fun v153_493 =>
      xP Try.prog (sBin .add 3 v148_489 v153_493) fun v154_494 =>
      xP Try.prog (sBin .gtr 3 v154_494 v88_98) fun v156_495 =>
      xP Try.prog (sPick v142_485 v156_495 (.bool false)) fun v157_496 =>
      xP Try.prog (sPick v139_483 (.bool true) v157_496) fun v158_497 =>
      J104 [v158_497] w492) (
      xP Try.prog (sPick v142_485 undef (.bool false)) fun v157_498 =>
      xP Try.prog (sPick v139_483 (.bool true) v157_498) fun v158_499 =>
      J104 [v158_499] w478))) (
      xP Try.prog (sPick v125_473 undef (.bool false)) fun v138_500 =>
      xP Try.prog (sPick v120_453 (.bool true) v138_500) fun v139_501 =>
      xIf v139_501 (
      xP Try.prog (sPick v139_501 (.bool true) undef) fun v158_502 =>
      J104 [v158_502] w472) (
      xP Try.prog (sBin .gtr 3 v96_102 (.int .i64 0)) fun v142_503 =>
      xIf v142_503 (
      xP Try.prog (sBin .sub 3 v96_102 (.int .i64 1)) fun v146_504 =>
      xE Try.prog (sCall 14 #[v19_1, v146_504]) w472 fun v147_505 w506 =>
      xP Try.prog (sField 26 v147_505 0) fun v148_507 =>
      xP Try.prog (sBin .sub 3 v96_102 (.int .i64 1)) fun v151_508 =>
      xE Try.prog (sCall 14 #[v19_1, v151_508]) w506 fun v152_509 w510 =>
      xP Try.prog (sField 26 v152_509 1) fun v153_511 =>
      xP Try.prog (sBin .add 3 v148_507 v153_511) fun v154_512 =>
      xP Try.prog (sBin .gtr 3 v154_512 v88_98) fun v156_513 =>
      xP Try.prog (sPick v142_503 v156_513 (.bool false)) fun v157_514 =>
      xP Try.prog (sPick v139_501 (.bool true) v157_514) fun v158_515 =>
      J104 [v158_515] w510) (
      xP Try.prog (sPick v142_503 undef (.bool false)) fun v157_516 =>
      xP Try.prog (sPick v139_501 (.bool true) v157_516) fun v158_517 =>
      J104 [v158_517] w472)))))) (
      xP Try.prog (sBin .lss 3 v96_102 (.int .i64 0)) fun v113_518 =>
      xP Try.prog (sPick v110_383 (.bool true) v113_518) fun v114_519 =>
      xIf v114_519 (
      xP Try.prog (sPick v114_519 (.bool true) undef) fun v120_520 =>
      xIf v120_520 (
      xP Try.prog (sPick v120_520 (.bool true) undef) fun v139_521 =>
      xIf v139_521 (
      xP Try.prog (sPick v139_521 (.bool true) undef) fun v158_522 =>
      J104 [v158_522] w381) (
      xP Try.prog (sBin .gtr 3 v96_102 (.int .i64 0)) fun v142_523 =>
      xIf v142_523 (
      xP Try.prog (sBin .sub 3 v96_102 (.int .i64 1)) fun v146_524 =>
      xE Try.prog (sCall 14 #[v19_1, v146_524]) w381 fun v147_525 w526 =>
      xP Try.prog (sField 26 v147_525 0) fun v148_527 =>
      xP Try.prog (sBin .sub 3 v96_102 (.int .i64 1)) fun v151_528 =>
      xE Try.prog (sCall 14 #[v19_1, v151_528]) w526 fun v152_529 w530 =>
      xP Try.prog (sField 26 v152_529 1) fun v153_531 =>
      xP Try.prog (sBin .add 3 v148_527 v153_531) fun v154_532 =>
      xP Try.prog (sBin .gtr 3 v154_532 v88_98) fun v156_533 =>
      xP Try.prog (sPick v142_523 v156_533 (.bool false)) fun v157_534 =>
      xP Try.prog (sPick v139_521 (.bool true) v157_534) fun v158_535 =>
      J104 [v158_535] w530) (
      xP Try.prog (sPick v142_523 undef (.bool false)) fun v157_536 =>
      xP Try.prog (sPick v139_521 (.bool true) v157_536) fun v158_537 =>
      J104 [v158_537] w381))) (
      xE Try.prog (sCall 16 #[v19_1]) w381 fun v124_538 w539 =>
      xP Try.prog (sBin .lss 3 v96_102 v124_538) fun v125_540 =>
      xIf v125_540 (
      xE Try.prog (sCall 14 #[v19_1, v96_102]) w539 fun v129_541 w542 =>
      xP Try.prog (sField 26 v129_541 0) fun v130_543 =>
      xE Try.prog (sCall 14 #[v19_1, v96_102]) w542 fun v133_544 w545 =>
      xP Try.prog (sField 26 v133_544 1) fun v134_546 =>
      xP Try.prog (sBin .add 3 v130_543 v134_546) fun v135_547 =>
      xP Try.prog (sBin .leq 3 v135_547 v88_98) fun v137_548 =>
      xP Try.prog (sPick v125_540 v137_548 (.bool false)) fun v138_549 =>
      xP Try.prog (sPick v120_520 (.bool true) v138_549) fun v139_550 =>
      xIf v139_550 (
      xP Try.prog (sPick v139_550 (.bool true) undef) fun v158_551 =>
      J104 [v158_551] w545) (
      xP Try.prog (sBin .gtr 3 v96_102 (.int .i64 0)) fun v142_552 =>
      xIf v142_552 (
      xP Try.prog (sBin .sub 3 v96_102 (.int .i64 1)) fun v146_553 =>
      xE Try.prog (sCall 14 #[v19_1, v146_553]) w545 fun v147_554 w555 =>
      xP Try.prog (sField 26 v147_554 0) fun v148_556 =>
      xP Try.prog (sBin .sub 3 v96_102 (.int .i64 1)) fun v151_557 =>
      xE Try.prog (sCall 14 #[v19_1, v151_557]) w555 fun v152_558 w559 =>
      xP Try.prog (sField 26 v152_558 1) fun v153_560 =>
      xP Try.prog (sBin .add 3 v148_556 v153_560) fun v154_561 =>
      xP Try.prog (sBin .gtr 3 v154_561 v88_98) fun v156_562 =>
      xP Try.prog (sPick v142_552 v156_562 (.bool false)) fun v157_563 =>
      xP Try.prog (sPick v139_550 (.bool true) v157_563) fun v158_564 =>
      J104 [v158_564] w559) (
      xP Try.prog (sPick v142_552 undef (.bool false)) fun v157_565 =>
      xP Try.prog (sPick v139_550 (.bool true) v157_565) fun v158_566 =>
      J104 [v158_566] w545))) (
      xP Try.prog (sPick v125_540 undef (.bool false)) fun v138_567 =>
      xP Try.prog (sPick v120_520 (.bool true) v138_567) fun v139_568 =>
      xIf v139_568 (
      xP Try.prog (sPick v139_568 (.bool true) undef) fun v158_569 =>
      J104 [v158_569] w539) (
      xP Try.prog (sBin .gtr 3 v96_102 (.int .i64 0)) fun v142_570 =>
      xIf v142_570 (
      xP Try.prog (sBin .sub 3 v96_102 (.int .i64 1)) fun v146_571 =>
      xE Try.prog (sCall 14 #[v19_1, v146_571]) w539 fun v147_572 w573 =>
      xP Try.prog (sField 26 v147_572 0) fun v148_574 =>
      xP Try.prog (sBin .sub 3 v96_102 (.int .i64 1)) fun v151_575 =>
      xE Try.prog (sCall 14 #[v19_1, v151_575]) w573 fun v152_576 w577 =>
      xP Try.prog (sField 26 v152_576 1) fun v153_578 =>
      xP Try.prog (sBin .add 3 v148_574 v153_578) fun v154_579 =>
      xP Try.prog (sBin .gtr 3 v154_579 v88_98) fun v156_580 =>
      xP Try.prog (sPick v142_570 v156_580 (.bool false)) fun v157_581 =>
      xP Try.prog (sPick v139_568 (.bool true) v157_581) fun v158_582 =>
      J104 [v158_582] w577) (
      xP Try.prog (sPick v142_570 undef (.bool false)) fun v157_583 =>
      xP Try.prog (sPick v139_568 (.bool true) v157_583) fun v158_584 =>
      J104 [v158_584] w539))))) (
      xE Try.prog (sCall 16 #[v19_1]) w381 fun v118_585 w586 =>
      xP Try.prog (sBin .gtr 3 v96_102 v118_585) fun v119_587 =>
      xP Try.prog (sPick v114_519 (.bool true) v119_587) fun v120_588 =>
      xIf v120_588 (
      xP Try.prog (sPick v120_588 (.bool true) undef) fun v139_589 =>
      xIf v139_589 (
      xP Try.prog (sPick v139_589 (.bool true) undef) fun v158_590 =>
      J104 [v158_590] w586) (
      xP Try.prog (sBin .gtr 3 v96_102 (.int .i64 0)) fun v142_591 =>
      xIf v142_591 (
      xP Try.prog (sBin .sub 3 v96_102 (.int .i64 1)) fun v146_592 =>
      xE Try.prog (sCall 14 #[v19_1, v146_592]) w586 fun v147_593 w594 =>
      xP Try.prog (sField 26 v147_593 0) fun v148_595 =>
      xP Try.prog (sBin .sub 3 v96_102 (.int .i64 1)) fun v151_596 =>
      xE Try.prog (sCall 14 #[v19_1, v151_596]) w594 fun v152_597 w598 =>
      xP Try.prog (sField 26 v152_597 1) fun v153_599 =>
      xP Try.prog (sBin .add 3 v148_595 v153_599) fun v154_600 =>
      xP Try.prog (sBin .gtr 3 v154_600 v88_98) fun v156_601 =>
      xP Try.prog (sPick v142_591 v156_601 (.bool false)) fun v157_602 =>
      xP Try.prog (sPick v139_589 (.bool true) v157_602) fun v158_603 =>
      J104 [v158_603] w598) (
      xP Try.prog (sPick v142_591 undef (.bool false)) fun v157_604 =>
      xP Try.prog (sPick v139_589 (.bool true) v157_604) fun v158_605 =>
      J104 [v158_605] w586))) (
      xE Try.prog (sCall 16 #[v19_1]) w586 fun v124_606 w607 =>
      xP Try.prog (sBin .lss 3 v96_102 v124_606) fun v125_608 =>
      xIf v125_608 (
      xE Try.prog (sCall 14 #[v19_1, v96_102]) w607 fun v129_609 w610 =>
      xP Try.prog (sField 26 v129_609 0) fun v130_611 =>
      xE Try.prog (sCall 14 #[v19_1, v96_102]) w610 fun v133_612 w613 =>
      xP Try.prog (sField 26 v133_612 1) fun v134_614 =>
      xP Try.prog (sBin .add 3 v130_611 v134_614) fun v135_615 =>
      xP Try.prog (sBin .leq 3 v135_615 v88_98) fun v137_616 =>
      xP Try.prog (sPick v125_608 v137_616 (.bool false)) fun v138_617 =>
      xP Try.prog (sPick v120_588 (.bool true) v138_617) fun v139_618 =>
      xIf v139_618 (
      xP Try.prog (sPick v139_618 (.bool true) undef) fun v158_619 =>
      J104 [v158_619] w613) (
      xP Try.prog (sBin .gtr 3 v96_102 (.int .i64 0)) fun v142_620 =>
      xIf v142_620 (
      xP Try.prog (sBin .sub 3 v96_102 (.int .i64 1)) fun v146_621 =>
      xE Try.prog (sCall 14 #[v19_1, v146_621]) w613 fun v147_622 w623 =>
      xP Try.prog (sField 26 v147_622 0) fun v148_624 =>
      xP Try.prog (sBin .sub 3 v96_102 (.int .i64 1)) fun v151_625 =>
      xE Try.prog (sCall 14 #[v19_1, v151_625]) w623 fun v152_626 w627 =>
      xP Try.prog (sField 26 v152_626 1) fun v153_628 =>
      xP Try.prog (sBin .add 3 v148_624 v153_628) fun v154_629 =>
      xP Try.prog (sBin .gtr 3 v154_629 v88_98) fun v156_630 =>
      xP Try.prog (sPick v142_620 v156_630 (.bool false)) fun v157_631 =>
      xP Try.prog (sPick v139_618 (.bool true) v157_631) fun v158_632 =>
      J104 [v158_632] w627) (
      xP Try.prog (sPick v142_620 undef (.bool false)) fun v157_633 =>
      xP Try.prog (sPick v139_618 (.bool true) v157_633) fun v158_634 =>
      J104 [v158_634] w613))) (
      xP Try.prog (sPick v125_608 undef (.bool false)) fun v138_635 =>
      xP Try.prog (sPick v120_588 (.bool true) v138_635) fun v139_636 =>
      xIf v139_636 (
      xP Try.prog (sPick v139_636 (.bool true) undef) fun v158_637 =>
      J104 [v158_637] w607) (
      xP Try.prog (sBin .gtr 3 v96_102 (.int .i64 0)) fun v142_638 =>
      xIf v142_638 (
      xP Try.prog (sBin .sub 3 v96_102 (.int .i64 1)) fun v146_639 =>
      xE Try.prog (sCall 14 #[v19_1, v146_639]) w607 fun v147_640 w641 =>
      xP Try.prog (sField 26 v147_640 0) fun v148_642 =>
      xP Try.prog (sBin .sub 3 v96_102 (.int .i64 1)) fun v151_643 =>
      xE Try.prog (sCall 14 #[v19_1, v151_643]) w641 fun v152_644 w645 =>
      xP Try.prog (sField 26 v152_644 1) fun v153_646 =>
      xP Try.prog (sBin .add 3 v148_642 v153_646) fun v154_647 =>
      xP Try.prog (sBin .gtr 3 v154_647 v88_98) fun v156_648 =>
      xP Try.prog (sPick v142_638 v156_648 (.bool false)) fun v157_649 =>
      xP Try.prog (sPick v139_636 (.bool true) v157_649) fun v158_650 =>
      J104 [v158_650] w645) (
      xP Try.prog (sPick v142_638 undef (.bool false)) fun v157_651 =>
      xP Try.prog (sPick v139_636 (.bool true) v157_651) fun v158_652 =>
      J104 [v158_652] w607)))))))) fun vs653 _ w655 =>
    xIf (vs653.getD 0 undef) (
      R (.returned (.bool false)) w655) (
      xP Try.prog (sBin .add 3 (vs81.getD 0 undef) (.int .i64 1)) fun v81_656 =>
    J80 [v81_656] w655)) (
      xE Try.prog (sCall 16 #[v19_1]) w92 fun v160_657 w658 =>
  xE Try.prog (sCall 16 #[v21_3]) w658 fun v162_659 w660 =>
  xR Try.prog (sEq .eql 3 false v160_657 v162_659) w660 fun v163_661 =>
  xIf v163_661 (
  xE Try.prog (sCall 3 #[]) w660 fun v165_662 w663 =>
  xP Try.prog (sPick v163_661 v165_662 (.bool false)) fun v166_664 =>
  R (.returned v166_664) w663) (
  xP Try.prog (sPick v163_661 undef (.bool false)) fun v166_665 =>
  R (.returned v166_665) w660))))
theorem C_IndexMarks {a0 : Value} {a1 : Value} {a2 : Value} {a3 : Value} {w : World} {R : Ending → World → Prop} (h : S_IndexMarks a0 a1 a2 a3 w R) : Calls Try.prog 6 #[a0, a1, a2, a3] w R :=
  funcVC_sound (an := A_IndexMarks) (args := [a0, a1, a2, a3]) (k := 4) Try.func6 (by kernel_rfl) rfl
    (Eq.mp (show S_IndexMarks a0 a1 a2 a3 w R = funcVC Try.prog Try.f6 A_IndexMarks [a0, a1, a2, a3] w R by kernel_rfl) h)

/-- stave/stavelaw16.IndexDrops -/
def A_IndexDrops : Ann := (.seq .nil (.seq .nil (.seq (.join [38] .nil .nil) (.seq .nil (.seq .nil (.seq (.seq .nil (.one (.loop [10, 11, 12] (.seq (.join [46] .nil .nil) .nil)))) (.seq .nil (.seq .nil (.seq .nil (.seq .nil (.seq .nil (.seq (.join [112] .nil .nil) (.seq (.seq .nil (.one (.loop [17] (.seq .nil (.seq (.one (.seq (.draw (.pre [0, 1, 2, 3, 5, 6, 7, 8, 4, 9] .nil) [0, 0, 0, 6, 15, 0, 0, 96, 224, 511]) .nil)) .nil))))) .nil)))))))))))))
def S_IndexDrops (a0 : Value) (a1 : Value) (a2 : Value) (a3 : Value) (w : World) (R : Ending → World → Prop) : Prop :=
  xE Try.prog (sCall 8 #[a0]) w fun v19_1 w2 =>
  xJoin (fun J3 =>
    xR Try.prog (sEq .eql 22 true v19_1 (.pointer none)) w2 fun v21_4 =>
    xIf v21_4 (
    xP Try.prog (sPick v21_4 (.bool true) undef) fun v26_5 =>
    xIf v26_5 (
    xP Try.prog (sPick v26_5 (.bool true) undef) fun v33_6 =>
    xIf v33_6 (
    xP Try.prog (sPick v33_6 (.bool true) undef) fun v38_7 =>
    J3 [v38_7] w2) (
    xE Try.prog (sCall 11 #[v19_1, (.int .i64 3)]) w2 fun v36_8 w9 =>
    xR Try.prog (sEq .neq 3 true v36_8 (.int .i64 0)) w9 fun v37_10 =>
    xP Try.prog (sPick v33_6 (.bool true) v37_10) fun v38_11 =>
    J3 [v38_11] w9)) (
    xP Try.prog (sBin .and 3 a3 (.int .i64 63)) fun v30_12 =>
    xE Try.prog (sCall 10 #[v19_1, v30_12]) w2 fun v31_13 w14 =>
    xR Try.prog (sEq .neq 3 true v31_13 (.int .i64 0)) w14 fun v32_15 =>
    xP Try.prog (sPick v26_5 (.bool true) v32_15) fun v33_16 =>
    xIf v33_16 (
    xP Try.prog (sPick v33_16 (.bool true) undef) fun v38_17 =>
    J3 [v38_17] w14) (
    xE Try.prog (sCall 11 #[v19_1, (.int .i64 3)]) w14 fun v36_18 w19 =>
    xR Try.prog (sEq .neq 3 true v36_18 (.int .i64 0)) w19 fun v37_20 =>
    xP Try.prog (sPick v33_16 (.bool true) v37_20) fun v38_21 =>
    J3 [v38_21] w19))) (
    xE Try.prog (sCall 16 #[v19_1]) w2 fun v24_22 w23 =>
    xR Try.prog (sEq .neq 3 true v24_22 (.int .i64 0)) w23 fun v25_24 =>
    xP Try.prog (sPick v21_4 (.bool true) v25_24) fun v26_25 =>
    xIf v26_25 (
    xP Try.prog (sPick v26_25 (.bool true) undef) fun v33_26 =>
    xIf v33_26 (
    xP Try.prog (sPick v33_26 (.bool true) undef) fun v38_27 =>
    J3 [v38_27] w23) (
    xE Try.prog (sCall 11 #[v19_1, (.int .i64 3)]) w23 fun v36_28 w29 =>
    xR Try.prog (sEq .neq 3 true v36_28 (.int .i64 0)) w29 fun v37_30 =>
    xP Try.prog (sPick v33_26 (.bool true) v37_30) fun v38_31 =>
    J3 [v38_31] w29)) (
    xP Try.prog (sBin .and 3 a3 (.int .i64 63)) fun v30_32 =>
    xE Try.prog (sCall 10 #[v19_1, v30_32]) w23 fun v31_33 w34 =>
    xR Try.prog (sEq .neq 3 true v31_33 (.int .i64 0)) w34 fun v32_35 =>
    xP Try.prog (sPick v26_25 (.bool true) v32_35) fun v33_36 =>
    xIf v33_36 (
    xP Try.prog (sPick v33_36 (.bool true) undef) fun v38_37 =>
    J3 [v38_37] w34) (
    xE Try.prog (sCall 11 #[v19_1, (.int .i64 3)]) w34 fun v36_38 w39 =>
    xR Try.prog (sEq .neq 3 true v36_38 (.int .i64 0)) w39 fun v37_40 =>
    xP Try.prog (sPick v33_36 (.bool true) v37_40) fun v38_41 =>
    J3 [v38_41] w39)))) fun vs42 _ w44 =>
  xIf (vs42.getD 0 undef) (
    R (.returned (.bool false)) w44) (
    xLoop [(.slice none 0 0), (.int .i64 0), (.int .i64 0)] w44 fun J45 vs46 _ w48 =>
    xJoin (fun J49 =>
      xP Try.prog (sB .len #[34] #[a1]) fun v41_50 =>
      xP Try.prog (sBin .lss 3 (vs46.getD 2 undef) v41_50) fun v42_51 =>
      xIf v42_51 (
      xP Try.prog (sBin .lss 3 (vs46.getD 2 undef) (.int .i64 40)) fun v45_52 =>
      xP Try.prog (sPick v42_51 v45_52 (.bool false)) fun v46_53 =>
      J49 [v46_53] w48) (
      xP Try.prog (sPick v42_51 undef (.bool false)) fun v46_54 =>
      J49 [v46_54] w48)) fun vs55 _ w57 =>
    xIf (vs55.getD 0 undef) (
      xP Try.prog (sIA 34 a1 (vs46.getD 2 undef)) fun v52_58 =>
    xP Try.prog (sFA 37 v52_58 2) fun v53_59 =>
    xR Try.prog (sLoad 3 v53_59) w57 fun v54_60 =>
    xE Try.prog (sCall 13 #[v54_60, (.int .i64 1), (.int .i64 5)]) w57 fun v55_61 w62 =>
    xP Try.prog (sBuild 26 #[(0, (vs46.getD 1 undef)), (1, v55_61), (2, (vs46.getD 2 undef))]) fun v57_63 =>
    xE Try.prog (sAlloc 26) w62 fun v13_64 w65 =>
    xE Try.prog (sStore 26 v13_64 v57_63) w65 fun _ w66 =>
    xP Try.prog (sFA 26 v13_64 1) fun v59_67 =>
    xR Try.prog (sLoad 3 v59_67) w66 fun v60_68 =>
    xP Try.prog (sBin .add 3 (vs46.getD 1 undef) v60_68) fun v61_69 =>
    xR Try.prog (sLoad 26 v13_64) w66 fun v63_70 =>
    xE Try.prog (sCall 9 #[v19_1, v63_70]) w66 fun _ w72 =>
    xR Try.prog (sLoad 26 v13_64) w72 fun v66_73 =>
    xE Try.prog (sBuildSlice 35 1 #[(0, v66_73)]) w72 fun v67_74 w75 =>
    xE Try.prog (sB .append #[35, 35] #[(vs46.getD 0 undef), v67_74]) w75 fun v68_76 w77 =>
    xP Try.prog (sBin .add 3 (vs46.getD 2 undef) (.int .i64 1)) fun v48_78 =>
    J45 [v68_76, v61_69, v48_78] w77) (
      xP Try.prog (sB .len #[35] #[(vs46.getD 0 undef)]) fun v71_79 =>
  xE Try.prog (sCall 13 #[a2, (.int .i64 0), v71_79]) w57 fun v72_80 w81 =>
  xE Try.prog (sCall 13 #[a3, (.int .i64 0), (vs46.getD 1 undef)]) w81 fun v75_82 w83 =>
  xE Try.prog (sCall 10 #[v19_1, v75_82]) w83 fun v78_84 w85 =>
  xE Try.prog (sCall 15 #[v19_1, (.int .i64 (-1))]) w85 fun _ w87 =>
  xE Try.prog (sCall 15 #[v19_1, v72_80]) w87 fun _ w89 =>
  xJoin (fun J90 =>
    xE Try.prog (sCall 16 #[v19_1]) w89 fun v85_91 w92 =>
    xP Try.prog (sB .len #[35] #[(vs46.getD 0 undef)]) fun v87_93 =>
    xP Try.prog (sBin .sub 3 v87_93 v72_80) fun v89_94 =>
    xR Try.prog (sEq .neq 3 false v85_91 v89_94) w92 fun v90_95 =>
    xIf v90_95 (
    xP Try.prog (sPick v90_95 (.bool true) undef) fun v100_96 =>
    xIf v100_96 (
    xP Try.prog (sPick v100_96 (.bool true) undef) fun v112_97 =>
    J90 [v112_97] w92) (
    xE Try.prog (sCall 11 #[v19_1, v72_80]) w92 fun v104_98 w99 =>
    xR Try.prog (sEq .neq 3 true v104_98 (.int .i64 0)) w99 fun v105_100 =>
    xIf v105_100 (
    xP Try.prog (sB .len #[35] #[(vs46.getD 0 undef)]) fun v108_101 =>
    xP Try.prog (sBin .gtr 3 v108_101 v72_80) fun v110_102 =>
    xP Try.prog (sPick v105_100 v110_102 (.bool false)) fun v111_103 =>
    xP Try.prog (sPick v100_96 (.bool true) v111_103) fun v112_104 =>
    J90 [v112_104] w99) (
    xP Try.prog (sPick v105_100 undef (.bool false)) fun v111_105 =>
    xP Try.prog (sPick v100_96 (.bool true) v111_105) fun v112_106 =>
    J90 [v112_106] w99))) (
    xE Try.prog (sCall 10 #[v19_1, v75_82]) w92 fun v94_107 w108 =>
    xP Try.prog (sBin .sub 3 v78_84 v72_80) fun v97_109 =>
    xP Try.prog (sB .max #[3, 3] #[v97_109, (.int .i64 0)]) fun v98_110 =>
    xR Try.prog (sEq .neq 3 false v94_107 v98_110) w108 fun v99_111 =>
    xP Try.prog (sPick v90_95 (.bool true) v99_111) fun v100_112 =>
    xIf v100_112 (
    xP Try.prog (sPick v100_112 (.bool true) undef) fun v112_113 =>
    J90 [v112_113] w108) (
    xE Try.prog (sCall 11 #[v19_1, v72_80]) w108 fun v104_114 w115 =>
    xR Try.prog (sEq .neq 3 true v104_114 (.int .i64 0)) w115 fun v105_116 =>
    xIf v105_116 (
    xP Try.prog (sB .len #[35] #[(vs46.getD 0 undef)]) fun v108_117 =>
    xP Try.prog (sBin .gtr 3 v108_117 v72_80) fun v110_118 =>
    xP Try.prog (sPick v105_116 v110_118 (.bool false)) fun v111_119 =>
    xP Try.prog (sPick v100_112 (.bool true) v111_119) fun v112_120 =>
    J90 [v112_120] w115) (
    xP Try.prog (sPick v105_116 undef (.bool false)) fun v111_121 =>
    xP Try.prog (sPick v100_112 (.bool true) v111_121) fun v112_122 =>
    J90 [v112_122] w115)))) fun vs123 _ w125 =>
  xIf (vs123.getD 0 undef) (
    R (.returned (.bool false)) w125) (
    xLoop [v72_80] w125 fun J126 vs127 _ w129 =>
    xP Try.prog (sB .len #[35] #[(vs46.getD 0 undef)]) fun v116_130 =>
    xP Try.prog (sBin .lss 3 (vs127.getD 0 undef) v116_130) fun v117_131 =>
    xIf v117_131 (
      xP Try.prog (sBin .sub 3 (vs127.getD 0 undef) v72_80) fun v123_132 =>
    xP Try.prog (sIA 35 (vs46.getD 0 undef) (vs127.getD 0 undef)) fun v127_133 =>
    xR Try.prog (sLoad 26 v127_133) (w129.drew) fun v128_134 =>
    xE Try.prog (sCall 14 #[v19_1, v123_132]) (w129.drew) fun v124_135 w136 =>
    xStill Try.prog (sLoad 26 v127_133) v128_134 w136 <|
    xR Try.prog (sEq .neq 26 false v124_135 v128_134) w136 fun v129_137 =>
    xIf v129_137 (
      R (.returned (.bool false)) w136) (
      xP Try.prog (sBin .add 3 (vs127.getD 0 undef) (.int .i64 1)) fun v119_138 =>
    J126 [v119_138] w136)) (
      xE Try.prog (sCall 15 #[v19_1, (.int .i64 1099511627776)]) w129 fun _ w140 =>
  xE Try.prog (sCall 16 #[v19_1]) w140 fun v133_141 w142 =>
  xR Try.prog (sEq .eql 3 true v133_141 (.int .i64 0)) w142 fun v134_143 =>
  xIf v134_143 (
  xE Try.prog (sCall 10 #[v19_1, v75_82]) w142 fun v138_144 w145 =>
  xR Try.prog (sEq .eql 3 true v138_144 (.int .i64 0)) w145 fun v139_146 =>
  xP Try.prog (sPick v134_143 v139_146 (.bool false)) fun v140_147 =>
  xIf v140_147 (
  xE Try.prog (sCall 14 #[v19_1, (.int .i64 0)]) w145 fun v143_148 w149 =>
  xP Try.prog (sBuild 26 #[]) fun v144_150 =>
  xR Try.prog (sEq .eql 26 false v143_148 v144_150) w149 fun v145_151 =>
  xP Try.prog (sPick v140_147 v145_151 (.bool false)) fun v146_152 =>
  xIf v146_152 (
  xE Try.prog (sCall 3 #[]) w149 fun v148_153 w154 =>
  xP Try.prog (sPick v146_152 v148_153 (.bool false)) fun v149_155 =>
  R (.returned v149_155) w154) (
  xP Try.prog (sPick v146_152 undef (.bool false)) fun v149_156 =>
  R (.returned v149_156) w149)) (
  xP Try.prog (sPick v140_147 undef (.bool false)) fun v146_157 =>
  xIf v146_157 (
  xE Try.prog (sCall 3 #[]) w145 fun v148_158 w159 =>
  xP Try.prog (sPick v146_157 v148_158 (.bool false)) fun v149_160 =>
  R (.returned v149_160) w159) (
  xP Try.prog (sPick v146_157 undef (.bool false)) fun v149_161 =>
  R (.returned v149_161) w145))) (
  xP Try.prog (sPick v134_143 undef (.bool false)) fun v140_162 =>
  xIf v140_162 (
  xE Try.prog (sCall 14 #[v19_1, (.int .i64 0)]) w142 fun v143_163 w164 =>
  xP Try.prog (sBuild 26 #[]) fun v144_165 =>
  xR Try.prog (sEq .eql 26 false v143_163 v144_165) w164 fun v145_166 =>
  xP Try.prog (sPick v140_162 v145_166 (.bool false)) fun v146_167 =>
  xIf v146_167 (
  xE Try.prog (sCall 3 #[]) w164 fun v148_168 w169 =>
  xP Try.prog (sPick v146_167 v148_168 (.bool false)) fun v149_170 =>
  R (.returned v149_170) w169) (
  xP Try.prog (sPick v146_167 undef (.bool false)) fun v149_171 =>
  R (.returned v149_171) w164)) (
  xP Try.prog (sPick v140_162 undef (.bool false)) fun v146_172 =>
  xIf v146_172 (
  xE Try.prog (sCall 3 #[]) w142 fun v148_173 w174 =>
  xP Try.prog (sPick v146_172 v148_173 (.bool false)) fun v149_175 =>
  R (.returned v149_175) w174) (
  xP Try.prog (sPick v146_172 undef (.bool false)) fun v149_176 =>
  R (.returned v149_176) w142)))))))
theorem C_IndexDrops {a0 : Value} {a1 : Value} {a2 : Value} {a3 : Value} {w : World} {R : Ending → World → Prop} (h : S_IndexDrops a0 a1 a2 a3 w R) : Calls Try.prog 7 #[a0, a1, a2, a3] w R :=
  funcVC_sound (an := A_IndexDrops) (args := [a0, a1, a2, a3]) (k := 4) Try.func7 (by kernel_rfl) rfl
    (Eq.mp (show S_IndexDrops a0 a1 a2 a3 w R = funcVC Try.prog Try.f7 A_IndexDrops [a0, a1, a2, a3] w R by kernel_rfl) h)

/-- stave/index.New -/
def A_New : Ann := .nil
def S_New (a0 : Value) (w : World) (R : Ending → World → Prop) : Prop :=
  xP Try.prog (sB .max #[3, 3] #[a0, (.int .i64 1)]) fun v4_1 =>
  xP Try.prog (sBuild 44 #[(0, v4_1)]) fun v5_2 =>
  xE Try.prog (sBox 44 v5_2) w fun v6_3 w4 =>
  R (.returned v6_3) w4
theorem C_New {a0 : Value} {w : World} {R : Ending → World → Prop} (h : S_New a0 w R) : Calls Try.prog 8 #[a0] w R :=
  funcVC_sound (an := A_New) (args := [a0]) (k := 1) Try.func8 (by kernel_rfl) rfl
    (Eq.mp (show S_New a0 w R = funcVC Try.prog Try.f8 A_New [a0] w R by kernel_rfl) h)

/-- (*stave/index.Index).Add -/
def A_Add : Ann := (.seq .nil (.seq (.draw (.pre [0, 1, 2, 3, 4, 5, 6, 7, 8, 9, 10] .nil) [0, 0, 2, 6, 14, 0, 32, 126, 255, 511, 1023]) .nil))
def S_Add (a0 : Value) (a1 : Value) (w : World) (R : Ending → World → Prop) : Prop :=
  xE Try.prog (sBox 26 a1) w fun v3_1 w2 =>
  xP Try.prog (sNil a0) fun v6_3 =>
  xP Try.prog (sFA 44 v6_3 1) fun v7_4 =>
  xR Try.prog (sLoad 35 v7_4) (w2.drew) fun v8_5 =>
  xR Try.prog (sLoad 26 v3_1) (w2.drew) fun v9_6 =>
  xE Try.prog (sBuildSlice 35 1 #[(0, v9_6)]) (w2.drew) fun v10_7 w8 =>
  xStill Try.prog (sLoad 35 v7_4) v8_5 w8 <|
  xE Try.prog (sB .append #[35, 35] #[v8_5, v10_7]) w8 fun v11_9 w10 =>
  xP Try.prog (sNil a0) fun v12_11 =>
  xP Try.prog (sFA 44 v12_11 1) fun v13_12 =>
  xE Try.prog (sStore 35 v13_12 v11_9) w10 fun _ w13 =>
  xE Try.prog (sCall 19 #[a0]) w13 fun _ w15 =>
  R (.returned (.tuple #[])) w15
theorem C_Add {a0 : Value} {a1 : Value} {w : World} {R : Ending → World → Prop} (h : S_Add a0 a1 w R) : Calls Try.prog 9 #[a0, a1] w R :=
  funcVC_sound (an := A_Add) (args := [a0, a1]) (k := 2) Try.func9 (by kernel_rfl) rfl
    (Eq.mp (show S_Add a0 a1 w R = funcVC Try.prog Try.f9 A_Add [a0, a1] w R by kernel_rfl) h)

/-- (*stave/index.Index).Seek -/
def A_Seek : Ann := (.seq .nil (.seq .nil (.seq (.draw (.pre [0, 1, 2, 3, 4, 5, 6, 7, 8, 9, 10, 11] .nil) [0, 0, 2, 6, 0, 16, 48, 112, 254, 0, 1023, 2047]) .nil)))
def S_Seek (a0 : Value) (a1 : Value) (w : World) (R : Ending → World → Prop) : Prop :=
  xE Try.prog (sBox 22 a0) w fun v2_1 w2 =>
  xE Try.prog (sBox 3 a1) w2 fun v3_3 w4 =>
  xR Try.prog (sLoad 22 v2_1) w4 fun v6_5 =>
  xP Try.prog (sNil v6_5) fun v7_6 =>
  xP Try.prog (sFA 44 v7_6 2) fun v8_7 =>
  xR Try.prog (sLoad 28 v8_7) w4 fun v9_8 =>
  xP Try.prog (sB .len #[28] #[v9_8]) fun v10_9 =>
  xP Try.prog (sFunc (.func 21) #[] #[v2_1, v3_3]) fun v11_10 =>
  xE Try.prog (sCall 20 #[v10_9, v11_10]) w4 fun v12_11 w12 =>
  xR Try.prog (sLoad 22 v2_1) (w12.drew) fun v13_13 =>
  xP Try.prog (sBin .sub 3 v12_11 (.int .i64 1)) fun v15_14 =>
  xP Try.prog (sB .max #[3, 3] #[v15_14, (.int .i64 0)]) fun v16_15 =>
  xR Try.prog (sLoad 22 v2_1) (w12.drew) fun v17_16 =>
  xP Try.prog (sNil v17_16) fun v18_17 =>
  xP Try.prog (sFA 44 v18_17 0) fun v19_18 =>
  xR Try.prog (sLoad 3 v19_18) (w12.drew) fun v20_19 =>
  xP Try.prog (sBin .mul 3 v16_15 v20_19) fun v21_20 =>
  xP Try.prog (sFunc (.func 23) #[] #[v3_3]) fun v22_21 =>
  xE Try.prog (sCall 22 #[v13_13, v21_20, v22_21]) (w12.drew) fun v23_22 w23 =>
  R (.returned v23_22) w23
theorem C_Seek {a0 : Value} {a1 : Value} {w : World} {R : Ending → World → Prop} (h : S_Seek a0 a1 w R) : Calls Try.prog 10 #[a0, a1] w R :=
  funcVC_sound (an := A_Seek) (args := [a0, a1]) (k := 2) Try.func10 (by kernel_rfl) rfl
    (Eq.mp (show S_Seek a0 a1 w R = funcVC Try.prog Try.f10 A_Seek [a0, a1] w R by kernel_rfl) h)

/-- (*stave/index.Index).When -/
def A_When : Ann := .nil
def S_When (a0 : Value) (a1 : Value) (w : World) (R : Ending → World → Prop) : Prop :=
  xE Try.prog (sBox 3 a1) w fun v3_1 w2 =>
  xP Try.prog (sFunc (.func 24) #[] #[v3_1]) fun v6_3 =>
  xE Try.prog (sCall 22 #[a0, (.int .i64 0), v6_3]) w2 fun v7_4 w5 =>
  R (.returned v7_4) w5
theorem C_When {a0 : Value} {a1 : Value} {w : World} {R : Ending → World → Prop} (h : S_When a0 a1 w R) : Calls Try.prog 11 #[a0, a1] w R :=
  funcVC_sound (an := A_When) (args := [a0, a1]) (k := 2) Try.func11 (by kernel_rfl) rfl
    (Eq.mp (show S_When a0 a1 w R = funcVC Try.prog Try.f11 A_When [a0, a1] w R by kernel_rfl) h)

/-- stave/stavebook.Same[int] -/
def A_Same : Ann := (.seq .nil (.seq .nil (.seq (.seq .nil (.one (.loop [5] (.seq .nil (.seq (.one (.seq (.draw (.pre [0, 1, 2, 3, 4, 5, 6, 7, 8] .nil) [0, 0, 3, 7, 0, 0, 48, 112, 255]) .nil)) .nil))))) .nil)))
def S_Same (a0 : Value) (a1 : Value) (w : World) (R : Ending → World → Prop) : Prop :=
  xP Try.prog (sB .len #[28] #[a0]) fun v7_1 =>
  xP Try.prog (sB .len #[28] #[a1]) fun v9_2 =>
  xR Try.prog (sEq .neq 3 false v7_1 v9_2) w fun v10_3 =>
  xIf v10_3 (
    R (.returned (.bool false)) w) (
    xLoop [(.int .i64 0)] w fun J4 vs5 _ w7 =>
    xP Try.prog (sB .len #[28] #[a0]) fun v13_8 =>
    xP Try.prog (sBin .lss 3 (vs5.getD 0 undef) v13_8) fun v14_9 =>
    xIf v14_9 (
      xP Try.prog (sIA 28 a0 (vs5.getD 0 undef)) fun v19_10 =>
    xR Try.prog (sLoad 3 v19_10) (w7.drew) fun v20_11 =>
    xP Try.prog (sIA 28 a1 (vs5.getD 0 undef)) fun v23_12 =>
    xR Try.prog (sLoad 3 v23_12) (w7.drew) fun v24_13 =>
    xR Try.prog (sEq .neq 3 false v20_11 v24_13) (w7.drew) fun v25_14 =>
    xIf v25_14 (
      R (.returned (.bool false)) (w7.drew)) (
      xP Try.prog (sBin .add 3 (vs5.getD 0 undef) (.int .i64 1)) fun v16_15 =>
    J4 [v16_15] (w7.drew))) (
      R (.returned (.bool true)) w7))
theorem C_Same {a0 : Value} {a1 : Value} {w : World} {R : Ending → World → Prop} (h : S_Same a0 a1 w R) : Calls Try.prog 12 #[a0, a1] w R :=
  funcVC_sound (an := A_Same) (args := [a0, a1]) (k := 2) Try.func12 (by kernel_rfl) rfl
    (Eq.mp (show S_Same a0 a1 w R = funcVC Try.prog Try.f12 A_Same [a0, a1] w R by kernel_rfl) h)

/-- stave/stavebook.Within -/
def A_Within : Ann := (.seq .nil (.seq .nil (.join [0] .nil .nil)))
def S_Within (a0 : Value) (a1 : Value) (a2 : Value) (w : World) (R : Ending → World → Prop) : Prop :=
  xP Try.prog (sBin .sub 3 a2 a1) fun v10_1 =>
  xP Try.prog (sBin .add 3 v10_1 (.int .i64 1)) fun v11_2 =>
  xP Try.prog (sBin .rem 3 a0 v11_2) fun v12_3 =>
  xJoin (fun J4 =>
    xP Try.prog (sBin .lss 3 v12_3 (.int .i64 0)) fun v14_5 =>
    xIf v14_5 (
      xP Try.prog (sBin .add 3 v12_3 a2) fun v17_6 =>
      xP Try.prog (sBin .sub 3 v17_6 a1) fun v19_7 =>
      xP Try.prog (sBin .add 3 v19_7 (.int .i64 1)) fun v20_8 =>
      J4 [v20_8] w) (
      J4 [v12_3] w)) fun vs9 _ w11 =>
  xP Try.prog (sBin .add 3 a1 (vs9.getD 0 undef)) fun v23_12 =>
  R (.returned v23_12) w11
theorem C_Within {a0 : Value} {a1 : Value} {a2 : Value} {w : World} {R : Ending → World → Prop} (h : S_Within a0 a1 a2 w R) : Calls Try.prog 13 #[a0, a1, a2] w R :=
  funcVC_sound (an := A_Within) (args := [a0, a1, a2]) (k := 3) Try.func13 (by kernel_rfl) rfl
    (Eq.mp (show S_Within a0 a1 a2 w R = funcVC Try.prog Try.f13 A_Within [a0, a1, a2] w R by kernel_rfl) h)

/-- (*stave/index.Index).Head -/
def A_Head : Ann := (.seq .nil (.seq (.join [15] .nil .nil) .nil))
def S_Head (a0 : Value) (a1 : Value) (w : World) (R : Ending → World → Prop) : Prop :=
  xE Try.prog (sAlloc 26) w fun v4_1 w2 =>
  xJoin (fun J3 =>
    xP Try.prog (sBin .lss 3 a1 (.int .i64 0)) fun v6_4 =>
    xIf v6_4 (
    xP Try.prog (sPick v6_4 (.bool true) undef) fun v15_5 =>
    J3 [v15_5] w2) (
    xP Try.prog (sNil a0) fun v10_6 =>
    xP Try.prog (sFA 44 v10_6 1) fun v11_7 =>
    xR Try.prog (sLoad 35 v11_7) w2 fun v12_8 =>
    xP Try.prog (sB .len #[35] #[v12_8]) fun v13_9 =>
    xP Try.prog (sBin .geq 3 a1 v13_9) fun v14_10 =>
    xP Try.prog (sPick v6_4 (.bool true) v14_10) fun v15_11 =>
    J3 [v15_11] w2)) fun vs12 _ w14 =>
  xIf (vs12.getD 0 undef) (
    xP Try.prog (sBuild 26 #[]) fun v16_15 =>
    xE Try.prog (sStore 26 v4_1 v16_15) w14 fun _ w16 =>
    xR Try.prog (sLoad 26 v4_1) w16 fun r17 => R (.returned r17) w16) (
    xP Try.prog (sNil a0) fun v18_18 =>
  xP Try.prog (sFA 44 v18_18 1) fun v19_19 =>
  xR Try.prog (sLoad 35 v19_19) w14 fun v20_20 =>
  xP Try.prog (sIA 35 v20_20 a1) fun v22_21 =>
  xR Try.prog (sLoad 26 v22_21) w14 fun v23_22 =>
  xE Try.prog (sStore 26 v4_1 v23_22) w14 fun _ w23 =>
  xR Try.prog (sLoad 26 v4_1) w23 fun r24 => R (.returned r24) w23)
theorem C_Head {a0 : Value} {a1 : Value} {w : World} {R : Ending → World → Prop} (h : S_Head a0 a1 w R) : Calls Try.prog 14 #[a0, a1] w R :=
  funcVC_sound (an := A_Head) (args := [a0, a1]) (k := 2) Try.func14 (by kernel_rfl) rfl
    (Eq.mp (show S_Head a0 a1 w R = funcVC Try.prog Try.f14 A_Head [a0, a1] w R by kernel_rfl) h)

/-- (*stave/index.Index).Drop -/
def A_Drop : Ann := (.seq (.draw (.pre [0, 1, 2, 3, 4, 5, 6, 7, 8, 9, 10, 11, 12, 13] .nil) [0, 1, 3, 7, 0, 16, 48, 112, 240, 0, 512, 2032, 4095, 8191]) (.seq .nil (.seq .nil (.one (.loop [28] .nil)))))
def S_Drop (a0 : Value) (a1 : Value) (w : World) (R : Ending → World → Prop) : Prop :=
  xP Try.prog (sNil a0) fun v8_1 =>
  xP Try.prog (sFA 44 v8_1 1) fun v9_2 =>
  xR Try.prog (sLoad 35 v9_2) (w.drew) fun v10_3 =>
  xP Try.prog (sNil a0) fun v12_4 =>
  xP Try.prog (sFA 44 v12_4 1) fun v13_5 =>
  xR Try.prog (sLoad 35 v13_5) (w.drew) fun v14_6 =>
  xP Try.prog (sB .len #[35] #[v14_6]) fun v15_7 =>
  xP Try.prog (sB .max #[3, 3] #[a1, (.int .i64 0)]) fun v17_8 =>
  xP Try.prog (sB .min #[3, 3] #[v15_7, v17_8]) fun v18_9 =>
  xP Try.prog (sSlice 35 v10_3 (some v18_9) none none) fun v19_10 =>
  xP Try.prog (sNil a0) fun v22_11 =>
  xP Try.prog (sFA 44 v22_11 1) fun v23_12 =>
  xE Try.prog (sStore 35 v23_12 (.slice none 0 0)) (w.drew) fun _ w13 =>
  xP Try.prog (sNil a0) fun v24_14 =>
  xP Try.prog (sFA 44 v24_14 2) fun v25_15 =>
  xE Try.prog (sStore 28 v25_15 (.slice none 0 0)) w13 fun _ w16 =>
  xP Try.prog (sB .len #[35] #[v19_10]) fun v27_17 =>
  xLoop [(.int .i64 0)] w16 fun J18 vs19 _ w21 =>
    xP Try.prog (sBin .lss 3 (vs19.getD 0 undef) v27_17) fun v29_22 =>
    xIf v29_22 (
      xP Try.prog (sIA 35 v19_10 (vs19.getD 0 undef)) fun v30_23 =>
    xR Try.prog (sLoad 26 v30_23) w21 fun v31_24 =>
    xE Try.prog (sAlloc 26) w21 fun v6_25 w26 =>
    xE Try.prog (sStore 26 v6_25 v31_24) w26 fun _ w27 =>
    xR Try.prog (sLoad 26 v6_25) w27 fun v33_28 =>
    xE Try.prog (sCall 9 #[a0, v33_28]) w27 fun _ w30 =>
    xP Try.prog (sBin .add 3 (vs19.getD 0 undef) (.int .i64 1)) fun v35_31 =>
    J18 [v35_31] w30) (
      R (.returned (.tuple #[])) w21)
theorem C_Drop {a0 : Value} {a1 : Value} {w : World} {R : Ending → World → Prop} (h : S_Drop a0 a1 w R) : Calls Try.prog 15 #[a0, a1] w R :=
  funcVC_sound (an := A_Drop) (args := [a0, a1]) (k := 2) Try.func15 (by kernel_rfl) rfl
    (Eq.mp (show S_Drop a0 a1 w R = funcVC Try.prog Try.f15 A_Drop [a0, a1] w R by kernel_rfl) h)

/-- (*stave/index.Index).Len -/
def A_Len : Ann := .nil
def S_Len (a0 : Value) (w : World) (R : Ending → World → Prop) : Prop :=
  xP Try.prog (sNil a0) fun v4_1 =>
  xP Try.prog (sFA 44 v4_1 1) fun v5_2 =>
  xR Try.prog (sLoad 35 v5_2) w fun v6_3 =>
  xP Try.prog (sB .len #[35] #[v6_3]) fun v7_4 =>
  R (.returned v7_4) w
theorem C_Len {a0 : Value} {w : World} {R : Ending → World → Prop} (h : S_Len a0 w R) : Calls Try.prog 16 #[a0] w R :=
  funcVC_sound (an := A_Len) (args := [a0]) (k := 1) Try.func16 (by kernel_rfl) rfl
    (Eq.mp (show S_Len a0 w R = funcVC Try.prog Try.f16 A_Len [a0] w R by kernel_rfl) h)

/-- stave/staveref14.Seek -/
def A_RSeek : Ann := (.seq .nil (.seq (.seq .nil (.one (.loop [9] .nil))) .nil))
def S_RSeek (a0 : Value) (a1 : Value) (w : World) (R : Ending → World → Prop) : Prop :=
  xP Try.prog (sB .len #[35] #[a0]) fun v8_1 =>
  xLoop [(.int .i64 0)] w fun J2 vs3 _ w5 =>
    xP Try.prog (sBin .lss 3 (vs3.getD 0 undef) v8_1) fun v10_6 =>
    xIf v10_6 (
      xP Try.prog (sIA 35 a0 (vs3.getD 0 undef)) fun v12_7 =>
    xR Try.prog (sLoad 26 v12_7) w5 fun v13_8 =>
    xE Try.prog (sAlloc 26) w5 fun v6_9 w10 =>
    xE Try.prog (sStore 26 v6_9 v13_8) w10 fun _ w11 =>
    xP Try.prog (sFA 26 v6_9 0) fun v15_12 =>
    xR Try.prog (sLoad 3 v15_12) w11 fun v16_13 =>
    xP Try.prog (sBin .sub 3 a1 v16_13) fun v17_14 =>
    xP Try.prog (sFA 26 v6_9 1) fun v18_15 =>
    xR Try.prog (sLoad 3 v18_15) w11 fun v19_16 =>
    xP Try.prog (sBin .lss 3 v17_14 v19_16) fun v20_17 =>
    xIf v20_17 (
      R (.returned (vs3.getD 0 undef)) w11) (
      xP Try.prog (sBin .add 3 (vs3.getD 0 undef) (.int .i64 1)) fun v22_18 =>
    J2 [v22_18] w11)) (
      xP Try.prog (sB .len #[35] #[a0]) fun v24_19 =>
  R (.returned v24_19) w5)
theorem C_RSeek {a0 : Value} {a1 : Value} {w : World} {R : Ending → World → Prop} (h : S_RSeek a0 a1 w R) : Calls Try.prog 17 #[a0, a1] w R :=
  funcVC_sound (an := A_RSeek) (args := [a0, a1]) (k := 2) Try.func17 (by kernel_rfl) rfl
    (Eq.mp (show S_RSeek a0 a1 w R = funcVC Try.prog Try.f17 A_RSeek [a0, a1] w R by kernel_rfl) h)

/-- stave/staveref14.When -/
def A_RWhen : Ann := (.seq .nil (.seq (.seq .nil (.one (.loop [9] .nil))) .nil))
def S_RWhen (a0 : Value) (a1 : Value) (w : World) (R : Ending → World → Prop) : Prop :=
  xP Try.prog (sB .len #[35] #[a0]) fun v8_1 =>
  xLoop [(.int .i64 0)] w fun J2 vs3 _ w5 =>
    xP Try.prog (sBin .lss 3 (vs3.getD 0 undef) v8_1) fun v10_6 =>
    xIf v10_6 (
      xP Try.prog (sIA 35 a0 (vs3.getD 0 undef)) fun v12_7 =>
    xR Try.prog (sLoad 26 v12_7) w5 fun v13_8 =>
    xE Try.prog (sAlloc 26) w5 fun v6_9 w10 =>
    xE Try.prog (sStore 26 v6_9 v13_8) w10 fun _ w11 =>
    xP Try.prog (sFA 26 v6_9 2) fun v14_12 =>
    xR Try.prog (sLoad 3 v14_12) w11 fun v15_13 =>
    xP Try.prog (sBin .geq 3 v15_13 a1) fun v17_14 =>
    xIf v17_14 (
      R (.returned (vs3.getD 0 undef)) w11) (
      xP Try.prog (sBin .add 3 (vs3.getD 0 undef) (.int .i64 1)) fun v19_15 =>
    J2 [v19_15] w11)) (
      xP Try.prog (sB .len #[35] #[a0]) fun v21_16 =>
  R (.returned v21_16) w5)
theorem C_RWhen {a0 : Value} {a1 : Value} {w : World} {R : Ending → World → Prop} (h : S_RWhen a0 a1 w R) : Calls Try.prog 18 #[a0, a1] w R :=
  funcVC_sound (an := A_RWhen) (args := [a0, a1]) (k := 2) Try.func18 (by kernel_rfl) rfl
    (Eq.mp (show S_RWhen a0 a1 w R = funcVC Try.prog Try.f18 A_RWhen [a0, a1] w R by kernel_rfl) h)

/-- (*stave/index.Index).mark -/
def A_mark : Ann := (.seq .nil (.seq .nil (.seq (.draw (.pre [0, 1, 2, 3, 4, 5, 6, 7, 8, 9, 10, 11, 12, 13, 14, 15, 16, 17] .nil) [0, 0, 2, 6, 14, 0, 32, 96, 224, 0, 992, 2016, 4064, 8160, 16382, 32767, 65535, 131071]) .nil)))
def S_mark (a0 : Value) (w : World) (R : Ending → World → Prop) : Prop :=
  xP Try.prog (sNil a0) fun v4_1 =>
  xP Try.prog (sFA 44 v4_1 1) fun v5_2 =>
  xR Try.prog (sLoad 35 v5_2) w fun v6_3 =>
  xP Try.prog (sB .len #[35] #[v6_3]) fun v7_4 =>
  xP Try.prog (sBin .sub 3 v7_4 (.int .i64 1)) fun v8_5 =>
  xP Try.prog (sNil a0) fun v11_6 =>
  xP Try.prog (sFA 44 v11_6 0) fun v12_7 =>
  xR Try.prog (sLoad 3 v12_7) w fun v13_8 =>
  xP Try.prog (sBin .rem 3 v8_5 v13_8) fun v14_9 =>
  xR Try.prog (sEq .eql 3 true v14_9 (.int .i64 0)) w fun v15_10 =>
  xIf v15_10 (
    xP Try.prog (sNil a0) fun v18_11 =>
    xP Try.prog (sFA 44 v18_11 2) fun v19_12 =>
    xR Try.prog (sLoad 28 v19_12) (w.drew) fun v20_13 =>
    xP Try.prog (sNil a0) fun v22_14 =>
    xP Try.prog (sFA 44 v22_14 1) fun v23_15 =>
    xR Try.prog (sLoad 35 v23_15) (w.drew) fun v24_16 =>
    xP Try.prog (sIA 35 v24_16 v8_5) fun v26_17 =>
    xP Try.prog (sFA 26 v26_17 0) fun v27_18 =>
    xR Try.prog (sLoad 3 v27_18) (w.drew) fun v28_19 =>
    xE Try.prog (sBuildSlice 28 1 #[(0, v28_19)]) (w.drew) fun v29_20 w21 =>
    xStill Try.prog (sLoad 28 v19_12) v20_13 w21 <|
    xE Try.prog (sB .append #[28, 28] #[v20_13, v29_20]) w21 fun v30_22 w23 =>
    xP Try.prog (sNil a0) fun v31_24 =>
    xP Try.prog (sFA 44 v31_24 2) fun v32_25 =>
    xE Try.prog (sStore 28 v32_25 v30_22) w23 fun _ w26 =>
    R (.returned (.tuple #[])) w26) (
    R (.returned (.tuple #[])) w)
theorem C_mark {a0 : Value} {w : World} {R : Ending → World → Prop} (h : S_mark a0 w R) : Calls Try.prog 19 #[a0] w R :=
  funcVC_sound (an := A_mark) (args := [a0]) (k := 1) Try.func19 (by kernel_rfl) rfl
    (Eq.mp (show S_mark a0 w R = funcVC Try.prog Try.f19 A_mark [a0] w R by kernel_rfl) h)

/-- sort.Search -/
def A_Search : Ann := (.seq .nil (.seq .nil (.seq (.one (.loop [5, 6] .nil)) .nil)))
def S_Search (a0 : Value) (a1 : Value) (w : World) (R : Ending → World → Prop) : Prop :=
  xLoop [(.int .i64 0), a0] w fun J1 vs2 _ w4 =>
    xP Try.prog (sBin .lss 3 (vs2.getD 0 undef) (vs2.getD 1 undef)) fun v11_5 =>
    xIf v11_5 (
      xP Try.prog (sBin .add 3 (vs2.getD 0 undef) (vs2.getD 1 undef)) fun v14_6 =>
    xP Try.prog (sConv 3 49 v14_6) fun v15_7 =>
    xP Try.prog (sBin .shr 49 v15_7 (.int .u64 1)) fun v16_8 =>
    xP Try.prog (sConv 49 3 v16_8) fun v17_9 =>
    xE Try.prog (sCallV a1 #[v17_9]) w4 fun v20_10 w11 =>
    xP Try.prog (sUn .not v20_10) fun v21_12 =>
    xIf v21_12 (
      xP Try.prog (sBin .add 3 v17_9 (.int .i64 1)) fun v23_13 =>
      J1 [v23_13, (vs2.getD 1 undef)] w11) (
      J1 [(vs2.getD 0 undef), v17_9] w11)) (
      R (.returned (vs2.getD 0 undef)) w4)
theorem C_Search {a0 : Value} {a1 : Value} {w : World} {R : Ending → World → Prop} (h : S_Search a0 a1 w R) : Calls Try.prog 20 #[a0, a1] w R :=
  funcVC_sound (an := A_Search) (args := [a0, a1]) (k := 2) Try.func20 (by kernel_rfl) rfl
    (Eq.mp (show S_Search a0 a1 w R = funcVC Try.prog Try.f20 A_Search [a0, a1] w R by kernel_rfl) h)

/-- (*stave/index.Index).Seek$1 -/
def A_Seek1 : Ann := (.seq .nil (.seq (.draw (.pre [0, 1, 2, 3, 4, 5, 6, 7, 8, 9] .nil) [0, 1, 3, 7, 0, 31, 63, 0, 255, 511]) .nil))
def S_Seek1 (a0 : Value) (a1 : Value) (a2 : Value) (w : World) (R : Ending → World → Prop) : Prop :=
  xR Try.prog (sLoad 22 a1) (w.drew) fun v5_1 =>
  xP Try.prog (sNil v5_1) fun v6_2 =>
  xP Try.prog (sFA 44 v6_2 2) fun v7_3 =>
  xR Try.prog (sLoad 28 v7_3) (w.drew) fun v8_4 =>
  xP Try.prog (sIA 28 v8_4 a0) fun v10_5 =>
  xR Try.prog (sLoad 3 v10_5) (w.drew) fun v11_6 =>
  xR Try.prog (sLoad 3 a2) (w.drew) fun v12_7 =>
  xP Try.prog (sBin .gtr 3 v11_6 v12_7) fun v13_8 =>
  R (.returned v13_8) (w.drew)
theorem C_Seek1 {a0 : Value} {a1 : Value} {a2 : Value} {w : World} {R : Ending → World → Prop} (h : S_Seek1 a0 a1 a2 w R) : Calls Try.prog 21 #[a0, a1, a2] w R :=
  funcVC_sound (an := A_Seek1) (args := [a0, a1, a2]) (k := 3) Try.func21 (by kernel_rfl) rfl
    (Eq.mp (show S_Seek1 a0 a1 a2 w R = funcVC Try.prog Try.f21 A_Seek1 [a0, a1, a2] w R by kernel_rfl) h)

/-- (*stave/index.Index).first -/
def A_first : Ann := .nil
def S_first (a0 : Value) (a1 : Value) (a2 : Value) (w : World) (R : Ending → World → Prop) : Prop :=
  xP Try.prog (sNil a0) fun v9_1 =>
  xP Try.prog (sFA 44 v9_1 1) fun v10_2 =>
  xR Try.prog (sLoad 35 v10_2) w fun v11_3 =>
  xP Try.prog (sSlice 35 v11_3 (some a1) none none) fun v13_4 =>
  xE Try.prog (sCall 25 #[v13_4, a2]) w fun v15_5 w6 =>
  xP Try.prog (sBin .lss 3 v15_5 (.int .i64 0)) fun v17_7 =>
  xIf v17_7 (
    xP Try.prog (sNil a0) fun v19_8 =>
    xP Try.prog (sFA 44 v19_8 1) fun v20_9 =>
    xR Try.prog (sLoad 35 v20_9) w6 fun v21_10 =>
    xP Try.prog (sB .len #[35] #[v21_10]) fun v22_11 =>
    R (.returned v22_11) w6) (
    xP Try.prog (sBin .add 3 a1 v15_5) fun v25_12 =>
  R (.returned v25_12) w6)
theorem C_first {a0 : Value} {a1 : Value} {a2 : Value} {w : World} {R : Ending → World → Prop} (h : S_first a0 a1 a2 w R) : Calls Try.prog 22 #[a0, a1, a2] w R :=
  funcVC_sound (an := A_first) (args := [a0, a1, a2]) (k := 3) Try.func22 (by kernel_rfl) rfl
    (Eq.mp (show S_first a0 a1 a2 w R = funcVC Try.prog Try.f22 A_first [a0, a1, a2] w R by kernel_rfl) h)

/-- (*stave/index.Index).Seek$2 -/
def A_Seek2 : Ann := .nil
def S_Seek2 (a0 : Value) (a1 : Value) (w : World) (R : Ending → World → Prop) : Prop :=
  xE Try.prog (sBox 26 a0) w fun v2_1 w2 =>
  xR Try.prog (sLoad 3 a1) w2 fun v4_3 =>
  xP Try.prog (sFA 26 v2_1 0) fun v5_4 =>
  xR Try.prog (sLoad 3 v5_4) w2 fun v6_5 =>
  xP Try.prog (sBin .sub 3 v4_3 v6_5) fun v7_6 =>
  xP Try.prog (sFA 26 v2_1 1) fun v8_7 =>
  xR Try.prog (sLoad 3 v8_7) w2 fun v9_8 =>
  xP Try.prog (sBin .lss 3 v7_6 v9_8) fun v10_9 =>
  R (.returned v10_9) w2
theorem C_Seek2 {a0 : Value} {a1 : Value} {w : World} {R : Ending → World → Prop} (h : S_Seek2 a0 a1 w R) : Calls Try.prog 23 #[a0, a1] w R :=
  funcVC_sound (an := A_Seek2) (args := [a0, a1]) (k := 2) Try.func23 (by kernel_rfl) rfl
    (Eq.mp (show S_Seek2 a0 a1 w R = funcVC Try.prog Try.f23 A_Seek2 [a0, a1] w R by kernel_rfl) h)

/-- (*stave/index.Index).When$1 -/
def A_When1 : Ann := .nil
def S_When1 (a0 : Value) (a1 : Value) (w : World) (R : Ending → World → Prop) : Prop :=
  xE Try.prog (sBox 26 a0) w fun v2_1 w2 =>
  xP Try.prog (sFA 26 v2_1 2) fun v4_3 =>
  xR Try.prog (sLoad 3 v4_3) w2 fun v5_4 =>
  xR Try.prog (sLoad 3 a1) w2 fun v6_5 =>
  xP Try.prog (sBin .geq 3 v5_4 v6_5) fun v7_6 =>
  R (.returned v7_6) w2
theorem C_When1 {a0 : Value} {a1 : Value} {w : World} {R : Ending → World → Prop} (h : S_When1 a0 a1 w R) : Calls Try.prog 24 #[a0, a1] w R :=
  funcVC_sound (an := A_When1) (args := [a0, a1]) (k := 2) Try.func24 (by kernel_rfl) rfl
    (Eq.mp (show S_When1 a0 a1 w R = funcVC Try.prog Try.f24 A_When1 [a0, a1] w R by kernel_rfl) h)

/-- slices.IndexFunc[[]stave/api.Head,stave/api.Head] -/
def A_IndexFunc : Ann := (.seq .nil (.seq (.seq .nil (.one (.loop [8] .nil))) .nil))
def S_IndexFunc (a0 : Value) (a1 : Value) (w : World) (R : Ending → World → Prop) : Prop :=
  xP Try.prog (sB .len #[35] #[a0]) fun v7_1 =>
  xLoop [(.int .i64 0)] w fun J2 vs3 _ w5 =>
    xP Try.prog (sBin .lss 3 (vs3.getD 0 undef) v7_1) fun v9_6 =>
    xIf v9_6 (
      xP Try.prog (sIA 35 a0 (vs3.getD 0 undef)) fun v14_7 =>
    xR Try.prog (sLoad 26 v14_7) w5 fun v15_8 =>
    xE Try.prog (sCallV a1 #[v15_8]) w5 fun v16_9 w10 =>
    xIf v16_9 (
      R (.returned (vs3.getD 0 undef)) w10) (
      xP Try.prog (sBin .add 3 (vs3.getD 0 undef) (.int .i64 1)) fun v18_11 =>
    J2 [v18_11] w10)) (
      R (.returned (.int .i64 (-1))) w5)
theorem C_IndexFunc {a0 : Value} {a1 : Value} {w : World} {R : Ending → World → Prop} (h : S_IndexFunc a0 a1 w R) : Calls Try.prog 25 #[a0, a1] w R :=
  funcVC_sound (an := A_IndexFunc) (args := [a0, a1]) (k := 2) Try.func25 (by kernel_rfl) rfl
    (Eq.mp (show S_IndexFunc a0 a1 w R = funcVC Try.prog Try.f25 A_IndexFunc [a0, a1] w R by kernel_rfl) h)

theorem FA_26_0 {K : Value → Prop} {b o : Nat} : xP Try.prog (sFA 26 (.pointer (some ⟨b, o, none⟩)) 0) K ↔ K (.pointer (some ⟨b, o + 0, none⟩)) := xP_FA (by kernel_rfl)
theorem FA_26_1 {K : Value → Prop} {b o : Nat} : xP Try.prog (sFA 26 (.pointer (some ⟨b, o, none⟩)) 1) K ↔ K (.pointer (some ⟨b, o + 1, none⟩)) := xP_FA (by kernel_rfl)
theorem FA_26_2 {K : Value → Prop} {b o : Nat} : xP Try.prog (sFA 26 (.pointer (some ⟨b, o, none⟩)) 2) K ↔ K (.pointer (some ⟨b, o + 2, none⟩)) := xP_FA (by kernel_rfl)
theorem FA_37_0 {K : Value → Prop} {b o : Nat} : xP Try.prog (sFA 37 (.pointer (some ⟨b, o, none⟩)) 0) K ↔ K (.pointer (some ⟨b, o + 0, none⟩)) := xP_FA (by kernel_rfl)
theorem FA_37_1 {K : Value → Prop} {b o : Nat} : xP Try.prog (sFA 37 (.pointer (some ⟨b, o, none⟩)) 1) K ↔ K (.pointer (some ⟨b, o + 1, none⟩)) := xP_FA (by kernel_rfl)
theorem FA_37_2 {K : Value → Prop} {b o : Nat} : xP Try.prog (sFA 37 (.pointer (some ⟨b, o, none⟩)) 2) K ↔ K (.pointer (some ⟨b, o + 2, none⟩)) := xP_FA (by kernel_rfl)
theorem FA_37_3 {K : Value → Prop} {b o : Nat} : xP Try.prog (sFA 37 (.pointer (some ⟨b, o, none⟩)) 3) K ↔ K (.pointer (some ⟨b, o + 3, none⟩)) := xP_FA (by kernel_rfl)
theorem FA_44_0 {K : Value → Prop} {b o : Nat} : xP Try.prog (sFA 44 (.pointer (some ⟨b, o, none⟩)) 0) K ↔ K (.pointer (some ⟨b, o + 0, none⟩)) := xP_FA (by kernel_rfl)
theorem FA_44_1 {K : Value → Prop} {b o : Nat} : xP Try.prog (sFA 44 (.pointer (some ⟨b, o, none⟩)) 1) K ↔ K (.pointer (some ⟨b, o + 1, none⟩)) := xP_FA (by kernel_rfl)
theorem FA_44_2 {K : Value → Prop} {b o : Nat} : xP Try.prog (sFA 44 (.pointer (some ⟨b, o, none⟩)) 2) K ↔ K (.pointer (some ⟨b, o + 2, none⟩)) := xP_FA (by kernel_rfl)
theorem FO_26_0 : fieldOneB Try.prog 26 0 0 = true := by kernel_rfl
theorem FO_26_1 : fieldOneB Try.prog 26 1 1 = true := by kernel_rfl
theorem PT_22 : ptrB Try.prog 22 := by unfold ptrB; kernel_rfl
theorem ONE_3 : oneB Try.prog 3 = true := by kernel_rfl
theorem SZ_3 : sizeB Try.prog 3 1 = true := by kernel_rfl
theorem ONE_22 : oneB Try.prog 22 = true := by kernel_rfl
theorem SZ_22 : sizeB Try.prog 22 1 = true := by kernel_rfl
theorem ONE_28 : oneB Try.prog 28 = true := by kernel_rfl
theorem SZ_28 : sizeB Try.prog 28 1 = true := by kernel_rfl
theorem ONE_35 : oneB Try.prog 35 = true := by kernel_rfl
theorem SZ_35 : sizeB Try.prog 35 1 = true := by kernel_rfl
theorem AGG_26 : aggB Try.prog 26 5 = true := by kernel_rfl
theorem SZ_26 : sizeB Try.prog 26 5 = true := by kernel_rfl
theorem AGG_37 : aggB Try.prog 37 4 = true := by kernel_rfl
theorem SZ_37 : sizeB Try.prog 37 4 = true := by kernel_rfl
theorem AGG_44 : aggB Try.prog 44 3 = true := by kernel_rfl
theorem SZ_44 : sizeB Try.prog 44 3 = true := by kernel_rfl
theorem Z_3 : zeroB Try.prog 3 (.int .i64 0) := by unfold zeroB; kernel_rfl
theorem Z_26 : zeroB Try.prog 26 (.agg #[.int .i64 0, .int .i64 0, .int .i64 0, .int .i64 0, .int .i64 0]) := by unfold zeroB; kernel_rfl
theorem Z_37 : zeroB Try.prog 37 (.agg #[.int .i64 0, .int .i64 0, .int .i64 0, .int .i64 0]) := by unfold zeroB; kernel_rfl
theorem SL_28 : sliceB Try.prog 28 3 = true := by kernel_rfl
theorem LEN_28 {K : Value → Prop} {a : Option Addr} {n c : Nat} : xP Try.prog (sB .len #[28] #[.slice a n c]) K ↔ K (.int .i64 n) := xP_len SL_28
theorem EL_28 : ElemB Try.prog 28 3 1 8 (.int .i64 0) := ⟨SL_28, by kernel_rfl, by kernel_rfl, Z_3, rfl, by decide⟩
theorem SL_34 : sliceB Try.prog 34 37 = true := by kernel_rfl
theorem LEN_34 {K : Value → Prop} {a : Option Addr} {n c : Nat} : xP Try.prog (sB .len #[34] #[.slice a n c]) K ↔ K (.int .i64 n) := xP_len SL_34
theorem EL_34 : ElemB Try.prog 34 37 4 32 (.agg #[.int .i64 0, .int .i64 0, .int .i64 0, .int .i64 0]) := ⟨SL_34, by kernel_rfl, by kernel_rfl, Z_37, rfl, by decide⟩
theorem SL_35 : sliceB Try.prog 35 26 = true := by kernel_rfl
theorem LEN_35 {K : Value → Prop} {a : Option Addr} {n c : Nat} : xP Try.prog (sB .len #[35] #[.slice a n c]) K ↔ K (.int .i64 n) := xP_len SL_35
theorem EL_35 : ElemB Try.prog 35 26 5 40 (.agg #[.int .i64 0, .int .i64 0, .int .i64 0, .int .i64 0, .int .i64 0]) := ⟨SL_35, by kernel_rfl, by kernel_rfl, Z_26, rfl, by decide⟩
theorem INT_2 : intB Try.prog 2 .i64 := by unfold intB; kernel_rfl
theorem INT_3 : intB Try.prog 3 .i64 := by unfold intB; kernel_rfl
theorem INT_5 : intB Try.prog 5 .u8 := by unfold intB; kernel_rfl
theorem INT_12 : intB Try.prog 12 .u64 := by unfold intB; kernel_rfl
theorem INT_21 : intB Try.prog 21 .i32 := by unfold intB; kernel_rfl
theorem INT_49 : intB Try.prog 49 .u64 := by unfold intB; kernel_rfl
theorem INT_57 : intB Try.prog 57 .u32 := by unfold intB; kernel_rfl
theorem CF_3 : calleeB Try.prog 3 = true := by kernel_rfl
theorem CF_8 : calleeB Try.prog 8 = true := by kernel_rfl
theorem CF_9 : calleeB Try.prog 9 = true := by kernel_rfl
theorem CF_10 : calleeB Try.prog 10 = true := by kernel_rfl
theorem CF_11 : calleeB Try.prog 11 = true := by kernel_rfl
theorem CF_12 : calleeB Try.prog 12 = true := by kernel_rfl
theorem CF_13 : calleeB Try.prog 13 = true := by kernel_rfl
theorem CF_14 : calleeB Try.prog 14 = true := by kernel_rfl
theorem CF_15 : calleeB Try.prog 15 = true := by kernel_rfl
theorem CF_16 : calleeB Try.prog 16 = true := by kernel_rfl
theorem CF_17 : calleeB Try.prog 17 = true := by kernel_rfl
theorem CF_18 : calleeB Try.prog 18 = true := by kernel_rfl
theorem CF_19 : calleeB Try.prog 19 = true := by kernel_rfl
theorem CF_20 : calleeB Try.prog 20 = true := by kernel_rfl
theorem CF_21 : calleeB Try.prog 21 = true := by kernel_rfl
theorem CF_22 : calleeB Try.prog 22 = true := by kernel_rfl
theorem CF_23 : calleeB Try.prog 23 = true := by kernel_rfl
theorem CF_24 : calleeB Try.prog 24 = true := by kernel_rfl
theorem CF_25 : calleeB Try.prog 25 = true := by kernel_rfl
end Go.Proofs.Ytolincflccddhaa
