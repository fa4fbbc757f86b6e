import Derived.Test.YtolincflccddhaaXOpen
import Derived.Test.YtolincflccddhaaRows
namespace Go.Proofs.Ytolincflccddhaa
open Go.X

/-- stave/stavelaw16.IndexRuns -/
def A_IndexRuns : Ann := .nil
def S_IndexRuns (w : World) (R : Ending → World → Prop) : Prop :=
  xE Try.prog (sCall 8 #[(.int .i64 2)]) w fun v4_1 w2 =>
  xR Try.prog (sEq .eql 22 true v4_1 (.pointer none)) w2 fun v6_3 =>
  xIf v6_3 (
    R (.returned (.bool false)) w2) (
    xP Try.prog (sBuild 26 #[(0, (.int .i64 0)), (1, (.int .i64 3)), (2, (.int .i64 5))]) fun v8_4 =>
  xE Try.prog (sCall 9 #[v4_1, v8_4]) w2 fun _ w6 =>
  xP Try.prog (sBuild 26 #[(0, (.int .i64 3)), (1, (.int .i64 2)), (2, (.int .i64 4))]) fun v11_7 =>
  xE Try.prog (sCall 9 #[v4_1, v11_7]) w6 fun _ w9 =>
  xP Try.prog (sBuild 26 #[(0, (.int .i64 9)), (1, (.int .i64 1)), (2, (.int .i64 8))]) fun v14_10 =>
  xE Try.prog (sCall 9 #[v4_1, v14_10]) w9 fun _ w12 =>
  xE Try.prog (sCall 10 #[v4_1, (.int .i64 2)]) w12 fun v17_13 w14 =>
  xE Try.prog (sCall 10 #[v4_1, (.int .i64 3)]) w14 fun v19_15 w16 =>
  xE Try.prog (sCall 10 #[v4_1, (.int .i64 5)]) w16 fun v21_17 w18 =>
  xE Try.prog (sCall 10 #[v4_1, (.int .i64 9)]) w18 fun v23_19 w20 =>
  xE Try.prog (sCall 10 #[v4_1, (.int .i64 10)]) w20 fun v25_21 w22 =>
  xE Try.prog (sBuildSlice 28 5 #[(0, v17_13), (1, v19_15), (2, v21_17), (3, v23_19), (4, v25_21)]) w22 fun v26_23 w24 =>
  xE Try.prog (sCall 11 #[v4_1, (.int .i64 5)]) w24 fun v28_25 w26 =>
  xE Try.prog (sCall 11 #[v4_1, (.int .i64 6)]) w26 fun v30_27 w28 =>
  xE Try.prog (sCall 11 #[v4_1, (.int .i64 9)]) w28 fun v32_29 w30 =>
  xE Try.prog (sBuildSlice 28 3 #[(0, v28_25), (1, v30_27), (2, v32_29)]) w30 fun v33_31 w32 =>
  xE Try.prog (sBuildSlice 28 5 #[(0, (.int .i64 0)), (1, (.int .i64 1)), (2, (.int .i64 2)), (3, (.int .i64 2)), (4, (.int .i64 3))]) w32 fun v35_33 w34 =>
  xE Try.prog (sCall 12 #[v26_23, v35_33]) w34 fun v36_35 w36 =>
  xIf v36_35 (
  xE Try.prog (sBuildSlice 28 3 #[(0, (.int .i64 0)), (1, (.int .i64 2)), (2, (.int .i64 3))]) w36 fun v39_37 w38 =>
  xE Try.prog (sCall 12 #[v33_31, v39_37]) w38 fun v40_39 w40 =>
  R (.returned v40_39) w40) (
  R (.returned (.bool false)) w36))
theorem C_IndexRuns {w : World} {R : Ending → World → Prop} (h : S_IndexRuns  w R) : Calls Try.prog 3 #[] w R :=
  funcVC_sound (an := A_IndexRuns) (args := []) (k := 0) Try.func3 (by kernel_rfl) rfl
    (Eq.mp (show S_IndexRuns  w R = funcVC Try.prog Try.f3 A_IndexRuns [] w R by kernel_rfl) h)

/-- stave/stavelaw16.IndexNear -/
def A_IndexNear : Ann := (.seq .nil (.seq .nil (.seq .nil (.seq .nil (.seq .nil (.seq (.seq .nil (.one (.loop [8, 9, 10] (.seq (.join [27] .nil .nil) .nil)))) (.seq .nil (.seq (.seq .nil (.one (.loop [11, 48] .nil))) (.seq (.join [72] .nil .nil) (.seq .nil (.seq .nil (.seq (.one (.loop [15] (.seq (.join [92] .nil .nil) .nil))) .nil))))))))))))
def S_IndexNear (a0 : Value) (a1 : Value) (a2 : Value) (w : World) (R : Ending → World → Prop) : Prop :=
  xE Try.prog (sCall 8 #[a0]) w fun v17_1 w2 =>
  xR Try.prog (sEq .eql 22 true v17_1 (.pointer none)) w2 fun v19_3 =>
  xIf v19_3 (
    R (.returned (.bool false)) w2) (
    xLoop [(.int .i64 0), (.slice none 0 0), (.int .i64 0)] w2 fun J4 vs5 _ w7 =>
    xJoin (fun J8 =>
      xP Try.prog (sB .len #[28] #[a1]) fun v22_9 =>
      xP Try.prog (sBin .lss 3 (vs5.getD 2 undef) v22_9) fun v23_10 =>
      xIf v23_10 (
      xP Try.prog (sBin .lss 3 (vs5.getD 2 undef) (.int .i64 20)) fun v26_11 =>
      J8 [v26_11] w7) (
      J8 [(.bool false)] w7)) fun vs12 _ w14 =>
    xIf (vs12.getD 0 undef) (
      xP Try.prog (sIA 28 a1 (vs5.getD 2 undef)) fun v33_15 =>
    xR Try.prog (sLoad 3 v33_15) w14 fun v34_16 =>
    xE Try.prog (sCall 13 #[v34_16, (.int .i64 1), (.int .i64 8)]) w14 fun v35_17 w18 =>
    xE Try.prog (sBuildSlice 28 1 #[(0, v35_17)]) w18 fun v36_19 w20 =>
    xE Try.prog (sB .append #[28, 28] #[(vs5.getD 1 undef), v36_19]) w20 fun v37_21 w22 =>
    xP Try.prog (sIA 28 v37_21 (vs5.getD 2 undef)) fun v41_23 =>
    xR Try.prog (sLoad 3 v41_23) w22 fun v42_24 =>
    xP Try.prog (sBin .add 3 (vs5.getD 0 undef) v42_24) fun v43_25 =>
    xP Try.prog (sBin .add 3 (vs5.getD 2 undef) (.int .i64 1)) fun v29_26 =>
    J4 [v43_25, v37_21, v29_26] w22) (
      xP Try.prog (sBin .sub 3 (.int .i64 9223372036854775807) (vs5.getD 0 undef)) fun v45_27 =>
  xP Try.prog (sB .len #[28] #[(vs5.getD 1 undef)]) fun v47_28 =>
  xLoop [v45_27, (.int .i64 0)] w14 fun J29 vs30 _ w32 =>
    xP Try.prog (sBin .lss 3 (vs30.getD 1 undef) v47_28) fun v49_33 =>
    xIf v49_33 (
      xP Try.prog (sIA 28 (vs5.getD 1 undef) (vs30.getD 1 undef)) fun v51_34 =>
    xR Try.prog (sLoad 3 v51_34) w32 fun v52_35 =>
    xP Try.prog (sBuild 26 #[(0, (vs30.getD 0 undef)), (1, v52_35), (2, (vs30.getD 1 undef))]) fun v57_36 =>
    xE Try.prog (sCall 9 #[v17_1, v57_36]) w32 fun _ w38 =>
    xP Try.prog (sBin .add 3 (vs30.getD 0 undef) v52_35) fun v61_39 =>
    xP Try.prog (sBin .add 3 (vs30.getD 1 undef) (.int .i64 1)) fun v62_40 =>
    J29 [v61_39, v62_40] w38) (
      xJoin (fun J41 =>
    xE Try.prog (sCall 10 #[v17_1, (.int .i64 9223372036854775807)]) w32 fun v64_42 w43 =>
    xP Try.prog (sB .len #[28] #[(vs5.getD 1 undef)]) fun v66_44 =>
    xR Try.prog (sEq .neq 3 false v64_42 v66_44) w43 fun v67_45 =>
    xIf v67_45 (
    J41 [(.bool true)] w43) (
    xE Try.prog (sCall 10 #[v17_1, (.int .i64 0)]) w43 fun v70_46 w47 =>
    xR Try.prog (sEq .neq 3 true v70_46 (.int .i64 0)) w47 fun v71_48 =>
    J41 [v71_48] w47)) fun vs49 _ w51 =>
  xIf (vs49.getD 0 undef) (
    R (.returned (.bool false)) w51) (
    xE Try.prog (sCall 13 #[a2, (.int .i64 1), (.int .i64 200)]) w51 fun v74_52 w53 =>
  xP Try.prog (sBin .sub 3 (.int .i64 9223372036854775807) v74_52) fun v75_54 =>
  xLoop [(.int .i64 0)] w53 fun J55 vs56 _ w58 =>
    xJoin (fun J59 =>
      xP Try.prog (sB .len #[28] #[(vs5.getD 1 undef)]) fun v78_60 =>
      xP Try.prog (sBin .lss 3 (vs56.getD 0 undef) v78_60) fun v79_61 =>
      xIf v79_61 (
      xE Try.prog (sCall 14 #[v17_1, (vs56.getD 0 undef)]) w58 fun v83_62 w63 =>
      xP Try.prog (sField 26 v83_62 0) fun v84_64 =>
      xE Try.prog (sCall 14 #[v17_1, (vs56.getD 0 undef)]) w63 fun v87_65 w66 =>
      xP Try.prog (sField 26 v87_65 1) fun v88_67 =>
      xP Try.prog (sBin .add 3 v84_64 v88_67) fun v89_68 =>
      xP Try.prog (sBin .leq 3 v89_68 v75_54) fun v91_69 =>
      J59 [v91_69] w66) (
      J59 [(.bool false)] w58)) fun vs70 _ w72 =>
    xIf (vs70.getD 0 undef) (
      xP Try.prog (sBin .add 3 (vs56.getD 0 undef) (.int .i64 1)) fun v94_73 =>
    J55 [v94_73] w72) (
      xE Try.prog (sCall 10 #[v17_1, v75_54]) w72 fun v97_74 w75 =>
  xR Try.prog (sEq .eql 3 false v97_74 (vs56.getD 0 undef)) w75 fun v99_76 =>
  xIf v99_76 (
  xE Try.prog (sCall 3 #[]) w75 fun v101_77 w78 =>
  R (.returned v101_77) w78) (
  R (.returned (.bool false)) w75))))))
theorem C_IndexNear {a0 : Value} {a1 : Value} {a2 : Value} {w : World} {R : Ending → World → Prop} (h : S_IndexNear a0 a1 a2 w R) : Calls Try.prog 4 #[a0, a1, a2] w R :=
  funcVC_sound (an := A_IndexNear) (args := [a0, a1, a2]) (k := 3) Try.func4 (by kernel_rfl) rfl
    (Eq.mp (show S_IndexNear a0 a1 a2 w R = funcVC Try.prog Try.f4 A_IndexNear [a0, a1, a2] w R by kernel_rfl) h)

/-- stave/stavelaw16.IndexPlays -/
def A_IndexPlays : Ann := (.seq .nil (.seq .nil (.seq .nil (.seq .nil (.seq .nil (.seq (.seq .nil (.one (.loop [10, 11, 12] (.seq (.join [32] .nil .nil) (.seq (.one (.seq .nil (.join [10, 11] (.seq .nil (.one (.seq .nil (.seq (.join [14] (.draw (.pre [0, 1, 2, 5, 6, 8, 9, 11] (.alt 3 (.pre [4] (.alt 7 (.pre [] (.alt 10 (.pre [12, 13, 14] .nil) (.op 13 (.pre [10, 12, 14] .nil)))) (.op 13 (.pre [7, 10, 12, 14] .nil)))) (.op 13 (.pre [3, 4, 7, 10, 12, 14] .nil)))) [0, 0, 2, 6, 15, 0, 32, 110, 0, 256, 1006, 0, 4095, 0, 16383]) .nil) .nil)))) (.seq (.join [100] .nil .nil) (.seq .nil (.one (.loop [15] (.seq (.join [108] .nil .nil) (.seq (.one (.seq .nil (.seq .nil (.join [140] .nil .nil)))) .nil))))))))) .nil))))) (.seq (.seq .nil (.one (.loop [143] (.seq .nil (.seq .nil (.seq (.one (.seq .nil (.seq (.draw (.pre [0, 1, 3, 4, 5, 6, 2, 7] .nil) [0, 0, 3, 0, 0, 24, 56, 127]) .nil))) .nil)))))) .nil)))))))
def S_IndexPlays (a0 : Value) (a1 : Value) (a2 : Value) (a3 : Value) (w : World) (R : Ending → World → Prop) : Prop :=
  xE Try.prog (sCall 8 #[a0]) w fun v20_1 w2 =>
  xR Try.prog (sEq .eql 22 true v20_1 (.pointer none)) w2 fun v22_3 =>
  xIf v22_3 (
    R (.returned (.bool false)) w2) (
    xE Try.prog (sCall 13 #[a1, (.int .i64 0), (.int .i64 4611686018427387904)]) w2 fun v24_4 w5 =>
  xLoop [(.slice none 0 0), v24_4, (.int .i64 0)] w5 fun J6 vs7 _ w9 =>
    xJoin (fun J10 =>
      xP Try.prog (sB .len #[34] #[a2]) fun v27_11 =>
      xP Try.prog (sBin .lss 3 (vs7.getD 2 undef) v27_11) fun v28_12 =>
      xIf v28_12 (
      xP Try.prog (sBin .lss 3 (vs7.getD 2 undef) (.int .i64 60)) fun v31_13 =>
      J10 [v31_13] w9) (
      J10 [(.bool false)] w9)) fun vs14 _ w16 =>
    xIf (vs14.getD 0 undef) (
      xP Try.prog (sIA 34 a2 (vs7.getD 2 undef)) fun v37_17 =>
    xR Try.prog (sLoad 37 v37_17) w16 fun v38_18 =>
    xE Try.prog (sAlloc 37) w16 fun v13_19 w20 =>
    xE Try.prog (sStore 37 v13_19 v38_18) w20 fun _ w21 =>
    xJoin (fun J22 =>
      xP Try.prog (sFA 37 v13_19 0) fun v39_23 =>
      xR Try.prog (sLoad 3 v39_23) w21 fun v40_24 =>
      xR Try.prog (sEq .eql 3 true v40_24 (.int .i64 1)) w21 fun v42_25 =>
      xIf v42_25 (
        xJoin (fun J26 =>
          xP Try.prog (sFA 37 v13_19 1) fun v44_27 =>
          xR Try.prog (sLoad 3 v44_27) (w21.drew) fun v45_28 =>
          xP Try.prog (sFA 37 v13_19 2) fun v48_29 =>
          xR Try.prog (sLoad 3 v48_29) (w21.drew) fun v49_30 =>
          xP Try.prog (sFA 37 v13_19 3) fun v51_31 =>
          xR Try.prog (sLoad 3 v51_31) (w21.drew) fun v52_32 =>
          (xE Try.prog (sCall 13 #[v45_28, (.int .i64 0), (.int .i64 3)]) (w21.drew) fun v46_33 w34 =>
          xStill Try.prog (sLoad 3 v51_31) v52_32 w34 <|
          xStill Try.prog (sLoad 3 v48_29) v49_30 w34 <|
          xP Try.prog (sBin .add 3 (vs7.getD 1 undef) v46_33) fun v47_35 =>
          (xE Try.prog (sCall 13 #[v49_30, (.int .i64 1), (.int .i64 8)]) w34 fun v50_36 w37 =>
          xStill Try.prog (sLoad 3 v51_31) v52_32 w37 <|
          (xE Try.prog (sCall 13 #[v52_32, (.int .i64 0), (.int .i64 50)]) w37 fun v53_38 w39 =>
          xP Try.prog (sBuild 26 #[(0, v47_35), (1, v50_36), (2, v53_38), (3, (vs7.getD 2 undef))]) fun v55_40 =>
          xE Try.prog (sAlloc 26) w39 fun v14_41 w42 =>
          xE Try.prog (sStore 26 v14_41 v55_40) w42 fun _ w43 =>
          J26 [v14_41] w43) ∧
          (xE Try.prog (sAlloc 26) w37 fun v14_44 w45 =>
          xStill Try.prog (sLoad 3 v51_31) v52_32 w45 <|
          xE Try.prog (sCall 13 #[v52_32, (.int .i64 0), (.int .i64 50)]) w45 fun v53_46 w47 =>
          xP Try.prog (sBuild 26 #[(0, v47_35), (1, v50_36), (2, v53_46), (3, (vs7.getD 2 undef))]) fun v55_48 =>
          xE Try.prog (sStore 26 v14_44 v55_48) w47 fun _ w49 =>
          J26 [v14_44] w49)) ∧
          (xE Try.prog (sAlloc 26) w34 fun v14_50 w51 =>
          xStill Try.prog (sLoad 3 v51_31) v52_32 w51 <|
          xStill Try.prog (sLoad 3 v48_29) v49_30 w51 <|
          xE Try.prog (sCall 13 #[v49_30, (.int .i64 1), (.int .i64 8)]) w51 fun v50_52 w53 =>
          xStill Try.prog (sLoad 3 v51_31) v52_32 w53 <|
          xE Try.prog (sCall 13 #[v52_32, (.int .i64 0), (.int .i64 50)]) w53 fun v53_54 w55 =>
          xP Try.prog (sBuild 26 #[(0, v47_35), (1, v50_52), (2, v53_54), (3, (vs7.getD 2 undef))]) fun v55_56 =>
          xE Try.prog (sStore 26 v14_50 v55_56) w55 fun _ w57 =>
          J26 [v14_50] w57)) ∧
          (xE Try.prog (sAlloc 26) (w21.drew) fun v14_58 w59 =>
          xStill Try.prog (sLoad 3 v51_31) v52_32 w59 <|
          xStill Try.prog (sLoad 3 v48_29) v49_30 w59 <|
          xStill Try.prog (sLoad 3 v44_27) v45_28 w59 <|
          xE Try.prog (sCall 13 #[v45_28, (.int .i64 0), (.int .i64 3)]) w59 fun v46_60 w61 =>
          xStill Try.prog (sLoad 3 v51_31) v52_32 w61 <|
          xStill Try.prog (sLoad 3 v48_29) v49_30 w61 <|
          xP Try.prog (sBin .add 3 (vs7.getD 1 undef) v46_60) fun v47_62 =>
          xE Try.prog (sCall 13 #[v49_30, (.int .i64 1), (.int .i64 8)]) w61 fun v50_63 w64 =>
          xStill Try.prog (sLoad 3 v51_31) v52_32 w64 <|
          xE Try.prog (sCall 13 #[v52_32, (.int .i64 0), (.int .i64 50)]) w64 fun v53_65 w66 =>
          xP Try.prog (sBuild 26 #[(0, v47_62), (1, v50_63), (2, v53_65), (3, (vs7.getD 2 undef))]) fun v55_67 =>
          xE Try.prog (sStore 26 v14_58 v55_67) w66 fun _ w68 =>
          J26 [v14_58] w68)) fun vs69 _ w71 =>
        xP Try.prog (sFA 26 (vs69.getD 0 undef) 0) fun v56_72 =>
        xR Try.prog (sLoad 3 v56_72) w71 fun v57_73 =>
        xP Try.prog (sFA 26 (vs69.getD 0 undef) 1) fun v58_74 =>
        xR Try.prog (sLoad 3 v58_74) w71 fun v59_75 =>
        xP Try.prog (sBin .add 3 v57_73 v59_75) fun v60_76 =>
        xR Try.prog (sLoad 26 (vs69.getD 0 undef)) w71 fun v62_77 =>
        xE Try.prog (sCall 9 #[v20_1, v62_77]) w71 fun _ w79 =>
        xR Try.prog (sLoad 26 (vs69.getD 0 undef)) w79 fun v65_80 =>
        xE Try.prog (sBuildSlice 35 1 #[(0, v65_80)]) w79 fun v66_81 w82 =>
        xE Try.prog (sB .append #[35, 35] #[(vs7.getD 0 undef), v66_81]) w82 fun v67_83 w84 =>
        J22 [v67_83, v60_76] w84) (
        xR Try.prog (sEq .eql 3 true v40_24 (.int .i64 2)) w21 fun v69_85 =>
        xIf v69_85 (
          xP Try.prog (sFA 37 v13_19 2) fun v71_86 =>
          xR Try.prog (sLoad 3 v71_86) w21 fun v72_87 =>
          xE Try.prog (sCall 15 #[v20_1, v72_87]) w21 fun _ w89 =>
          xP Try.prog (sB .len #[35] #[(vs7.getD 0 undef)]) fun v76_90 =>
          xP Try.prog (sFA 37 v13_19 2) fun v77_91 =>
          xR Try.prog (sLoad 3 v77_91) w89 fun v78_92 =>
          xP Try.prog (sB .max #[3, 3] #[v78_92, (.int .i64 0)]) fun v79_93 =>
          xP Try.prog (sB .min #[3, 3] #[v76_90, v79_93]) fun v80_94 =>
          xP Try.prog (sSlice 35 (vs7.getD 0 undef) (some v80_94) none none) fun v81_95 =>
          J22 [v81_95, (vs7.getD 1 undef)] w89) (
          J22 [(vs7.getD 0 undef), (vs7.getD 1 undef)] w21))) fun vs96 _ w98 =>
    xJoin (fun J99 =>
      xE Try.prog (sCall 16 #[v20_1]) w98 fun v83_100 w101 =>
      xP Try.prog (sB .len #[35] #[(vs96.getD 0 undef)]) fun v85_102 =>
      xR Try.prog (sEq .neq 3 false v83_100 v85_102) w101 fun v86_103 =>
      xIf v86_103 (
      J99 [(.bool true)] w101) (
      xE Try.prog (sCall 14 #[v20_1, (.int .i64 (-1))]) w101 fun v89_104 w105 =>
      xP Try.prog (sBuild 26 #[]) fun v90_106 =>
      xR Try.prog (sEq .neq 26 false v89_104 v90_106) w105 fun v91_107 =>
      xIf v91_107 (
      J99 [(.bool true)] w105) (
      xP Try.prog (sB .len #[35] #[(vs96.getD 0 undef)]) fun v96_108 =>
      xE Try.prog (sCall 14 #[v20_1, v96_108]) w105 fun v97_109 w110 =>
      xP Try.prog (sBuild 26 #[]) fun v98_111 =>
      xR Try.prog (sEq .neq 26 false v97_109 v98_111) w110 fun v99_112 =>
      J99 [v99_112] w110))) fun vs113 _ w115 =>
    xIf (vs113.getD 0 undef) (
      R (.returned (.bool false)) w115) (
      xLoop [(.int .i64 0)] w115 fun J116 vs117 _ w119 =>
      xJoin (fun J120 =>
        xP Try.prog (sB .len #[28] #[a3]) fun v103_121 =>
        xP Try.prog (sBin .lss 3 (vs117.getD 0 undef) v103_121) fun v104_122 =>
        xIf v104_122 (
        xP Try.prog (sBin .lss 3 (vs117.getD 0 undef) (.int .i64 4)) fun v107_123 =>
        J120 [v107_123] w119) (
        J120 [(.bool false)] w119)) fun vs124 _ w126 =>
      xIf (vs124.getD 0 undef) (
        xP Try.prog (sBin .sub 3 (vs96.getD 1 undef) (.int .i64 20)) fun v112_127 =>
      xP Try.prog (sB .max #[3, 3] #[v112_127, (.int .i64 0)]) fun v113_128 =>
      xP Try.prog (sIA 28 a3 (vs117.getD 0 undef)) fun v116_129 =>
      xR Try.prog (sLoad 3 v116_129) w126 fun v117_130 =>
      xE Try.prog (sCall 13 #[v117_130, (.int .i64 0), (.int .i64 25)]) w126 fun v118_131 w132 =>
      xP Try.prog (sBin .add 3 v113_128 v118_131) fun v119_133 =>
      xP Try.prog (sIA 28 a3 (vs117.getD 0 undef)) fun v122_134 =>
      xR Try.prog (sLoad 3 v122_134) w132 fun v123_135 =>
      xE Try.prog (sCall 13 #[v123_135, (.int .i64 0), (.int .i64 51)]) w132 fun v124_136 w137 =>
      xJoin (fun J138 =>
        xE Try.prog (sCall 10 #[v20_1, v119_133]) w137 fun v127_139 w140 =>
        xE Try.prog (sCall 17 #[(vs96.getD 0 undef), v119_133]) w140 fun v130_141 w142 =>
        xR Try.prog (sEq .neq 3 false v127_139 v130_141) w142 fun v131_143 =>
        xIf v131_143 (
        J138 [(.bool true)] w142) (
        xE Try.prog (sCall 11 #[v20_1, v124_136]) w142 fun v135_144 w145 =>
        xE Try.prog (sCall 18 #[(vs96.getD 0 undef), v124_136]) w145 fun v138_146 w147 =>
        xR Try.prog (sEq .neq 3 false v135_144 v138_146) w147 fun v139_148 =>
        J138 [v139_148] w147)) fun vs149 _ w151 =>
      xIf (vs149.getD 0 undef) (
        R (.returned (.bool false)) w151) (
        xP Try.prog (sBin .add 3 (vs117.getD 0 undef) (.int .i64 1)) fun v110_152 =>
      J116 [v110_152] w151)) (
        xP Try.prog (sBin .add 3 (vs7.getD 2 undef) (.int .i64 1)) fun v34_153 =>
    J6 [(vs96.getD 0 undef), (vs96.getD 1 undef), v34_153] w126))) (
      xP Try.prog (sB .len #[35] #[(vs7.getD 0 undef)]) fun v142_154 =>
  xLoop [(.int .i64 0)] w16 fun J155 vs156 _ w158 =>
    xP Try.prog (sBin .lss 3 (vs156.getD 0 undef) v142_154) fun v144_159 =>
    xIf v144_159 (
      xP Try.prog (sIA 35 (vs7.getD 0 undef) (vs156.getD 0 undef)) fun v151_160 =>
    xR Try.prog (sLoad 26 v151_160) (w158.drew) fun v152_161 =>
    xE Try.prog (sCall 14 #[v20_1, (vs156.getD 0 undef)]) (w158.drew) fun v148_162 w163 =>
    xStill Try.prog (sLoad 26 v151_160) v152_161 w163 <|
    xR Try.prog (sEq .neq 26 false v148_162 v152_161) w163 fun v153_164 =>
    xIf v153_164 (
      R (.returned (.bool false)) w163) (
      xP Try.prog (sBin .add 3 (vs156.getD 0 undef) (.int .i64 1)) fun v154_165 =>
    J155 [v154_165] w163)) (
      xE Try.prog (sCall 10 #[v20_1, (.int .i64 0)]) w158 fun v156_166 w167 =>
  xE Try.prog (sCall 17 #[(vs7.getD 0 undef), (.int .i64 0)]) w167 fun v158_168 w169 =>
  xR Try.prog (sEq .eql 3 false v156_166 v158_168) w169 fun v159_170 =>
  xIf v159_170 (
  xE Try.prog (sCall 10 #[v20_1, (.int .i64 9223372036854775807)]) w169 fun v162_171 w172 =>
  xP Try.prog (sB .len #[35] #[(vs7.getD 0 undef)]) fun v164_173 =>
  xR Try.prog (sEq .eql 3 false v162_171 v164_173) w172 fun v165_174 =>
  xIf v165_174 (
  xE Try.prog (sCall 3 #[]) w172 fun v168_175 w176 =>
  R (.returned v168_175) w176) (
  R (.returned (.bool false)) w172)) (
  R (.returned (.bool false)) w169))))
theorem C_IndexPlays {a0 : Value} {a1 : Value} {a2 : Value} {a3 : Value} {w : World} {R : Ending → World → Prop} (h : S_IndexPlays a0 a1 a2 a3 w R) : Calls Try.prog 5 #[a0, a1, a2, a3] w R :=
  funcVC_sound (an := A_IndexPlays) (args := [a0, a1, a2, a3]) (k := 4) Try.func5 (by kernel_rfl) rfl
    (Eq.mp (show S_IndexPlays a0 a1 a2 a3 w R = funcVC Try.prog Try.f5 A_IndexPlays [a0, a1, a2, a3] w R by kernel_rfl) h)

/-- stave/stavelaw16.IndexMarks -/
def A_IndexMarks : Ann := (.seq .nil (.seq .nil (.seq (.join [27] .nil .nil) (.seq .nil (.seq (.seq .nil (.one (.loop [11, 12] (.seq (.join [35] .nil .nil) (.join [11] (.one (.join [13] (.draw (.pre [0, 1, 2, 3, 4, 5, 7, 8, 9, 10, 11] (.alt 6 (.pre [] (.alt 12 (.pre [13, 14, 15] .nil) (.op 14 (.pre [12, 13, 15] .nil)))) (.op 14 (.pre [6, 12, 13, 15] .nil)))) [0, 0, 0, 6, 14, 30, 62, 0, 0, 384, 896, 1920, 4094, 8191, 0, 32767]) .nil)) .nil))))) (.seq (.seq .nil (.one (.loop [14] (.seq (.join [79] .nil .nil) (.seq (.one (.seq (.draw (.pre [0, 1, 2, 3, 4, 5, 7, 8, 9, 10, 6, 11, 12, 13] .nil) [0, 0, 3, 7, 0, 16, 63, 0, 0, 384, 896, 2047, 4095, 8191]) (.seq .nil (.join [158] .nil .nil)))) .nil))))) .nil))))))
def S_IndexMarks (a0 : Value) (a1 : Value) (a2 : Value) (a3 : Value) (w : World) (R : Ending → World → Prop) : Prop :=
  xE Try.prog (sCall 8 #[a0]) w fun v19_1 w2 =>
  xE Try.prog (sCall 8 #[a1]) w2 fun v21_3 w4 =>
  xJoin (fun J5 =>
    xR Try.prog (sEq .eql 22 true v19_1 (.pointer none)) w4 fun v23_6 =>
    xIf v23_6 (
    J5 [(.bool true)] w4) (
    xR Try.prog (sEq .eql 22 true v21_3 (.pointer none)) w4 fun v26_7 =>
    J5 [v26_7] w4)) fun vs8 _ w10 =>
  xIf (vs8.getD 0 undef) (
    R (.returned (.bool false)) w10) (
    xLoop [(.int .i64 0), (.int .i64 0)] w10 fun J11 vs12 _ w14 =>
    xJoin (fun J15 =>
      xP Try.prog (sB .len #[34] #[a2]) fun v30_16 =>
      xP Try.prog (sBin .lss 3 (vs12.getD 1 undef) v30_16) fun v31_17 =>
      xIf v31_17 (
      xP Try.prog (sBin .lss 3 (vs12.getD 1 undef) (.int .i64 60)) fun v34_18 =>
      J15 [v34_18] w14) (
      J15 [(.bool false)] w14)) fun vs19 _ w21 =>
    xIf (vs19.getD 0 undef) (
      xJoin (fun J22 =>
      xJoin (fun J23 =>
        xP Try.prog (sIA 34 a2 (vs12.getD 1 undef)) fun v41_24 =>
        xP Try.prog (sFA 37 v41_24 2) fun v42_25 =>
        xR Try.prog (sLoad 3 v42_25) (w21.drew) fun v43_26 =>
        xP Try.prog (sIA 34 a2 (vs12.getD 1 undef)) fun v47_27 =>
        xP Try.prog (sFA 37 v47_27 3) fun v48_28 =>
        xR Try.prog (sLoad 3 v48_28) (w21.drew) fun v49_29 =>
        (xE Try.prog (sCall 13 #[v43_26, (.int .i64 1), (.int .i64 8)]) (w21.drew) fun v44_30 w31 =>
        xStill Try.prog (sLoad 3 v48_28) v49_29 w31 <|
        (xE Try.prog (sCall 13 #[v49_29, (.int .i64 0), (.int .i64 50)]) w31 fun v50_32 w33 =>
        xP Try.prog (sBuild 26 #[(0, (vs12.getD 0 undef)), (1, v44_30), (2, v50_32)]) fun v51_34 =>
        xE Try.prog (sAlloc 26) w33 fun v13_35 w36 =>
        xE Try.prog (sStore 26 v13_35 v51_34) w36 fun _ w37 =>
        J23 [v13_35] w37) ∧
        (xE Try.prog (sAlloc 26) w31 fun v13_38 w39 =>
        xStill Try.prog (sLoad 3 v48_28) v49_29 w39 <|
        xE Try.prog (sCall 13 #[v49_29, (.int .i64 0), (.int .i64 50)]) w39 fun v50_40 w41 =>
        xP Try.prog (sBuild 26 #[(0, (vs12.getD 0 undef)), (1, v44_30), (2, v50_40)]) fun v51_42 =>
        xE Try.prog (sStore 26 v13_38 v51_42) w41 fun _ w43 =>
        J23 [v13_38] w43)) ∧
        (xE Try.prog (sAlloc 26) (w21.drew) fun v13_44 w45 =>
        xStill Try.prog (sLoad 3 v48_28) v49_29 w45 <|
        xStill Try.prog (sLoad 3 v42_25) v43_26 w45 <|
        xE Try.prog (sCall 13 #[v43_26, (.int .i64 1), (.int .i64 8)]) w45 fun v44_46 w47 =>
        xStill Try.prog (sLoad 3 v48_28) v49_29 w47 <|
        xE Try.prog (sCall 13 #[v49_29, (.int .i64 0), (.int .i64 50)]) w47 fun v50_48 w49 =>
        xP Try.prog (sBuild 26 #[(0, (vs12.getD 0 undef)), (1, v44_46), (2, v50_48)]) fun v51_50 =>
        xE Try.prog (sStore 26 v13_44 v51_50) w49 fun _ w51 =>
        J23 [v13_44] w51)) fun vs52 _ w54 =>
      xP Try.prog (sFA 26 (vs52.getD 0 undef) 1) fun v53_55 =>
      xR Try.prog (sLoad 3 v53_55) w54 fun v54_56 =>
      xP Try.prog (sBin .add 3 (vs12.getD 0 undef) v54_56) fun v55_57 =>
      xR Try.prog (sLoad 26 (vs52.getD 0 undef)) w54 fun v57_58 =>
      xE Try.prog (sCall 9 #[v19_1, v57_58]) w54 fun _ w60 =>
      xR Try.prog (sLoad 26 (vs52.getD 0 undef)) w60 fun v60_61 =>
      xE Try.prog (sCall 9 #[v21_3, v60_61]) w60 fun _ w63 =>
      xP Try.prog (sIA 34 a2 (vs12.getD 1 undef)) fun v64_64 =>
      xP Try.prog (sFA 37 v64_64 0) fun v65_65 =>
      xR Try.prog (sLoad 3 v65_65) w63 fun v66_66 =>
      xR Try.prog (sEq .eql 3 true v66_66 (.int .i64 2)) w63 fun v67_67 =>
      xIf v67_67 (
        xE Try.prog (sCall 15 #[v19_1, (.int .i64 1)]) w63 fun _ w69 =>
        xE Try.prog (sCall 15 #[v21_3, (.int .i64 1)]) w69 fun _ w71 =>
        J22 [v55_57] w71) (
        J22 [v55_57] w63)) fun vs72 _ w74 =>
    xP Try.prog (sBin .add 3 (vs12.getD 1 undef) (.int .i64 1)) fun v37_75 =>
    J11 [(vs72.getD 0 undef), v37_75] w74) (
      xLoop [(.int .i64 0)] w21 fun J76 vs77 _ w79 =>
    xJoin (fun J80 =>
      xP Try.prog (sB .len #[28] #[a3]) fun v74_81 =>
      xP Try.prog (sBin .lss 3 (vs77.getD 0 undef) v74_81) fun v75_82 =>
      xIf v75_82 (
      xP Try.prog (sBin .lss 3 (vs77.getD 0 undef) (.int .i64 20)) fun v78_83 =>
      J80 [v78_83] w79) (
      J80 [(.bool false)] w79)) fun vs84 _ w86 =>
    xIf (vs84.getD 0 undef) (
      xP Try.prog (sIA 28 a3 (vs77.getD 0 undef)) fun v84_87 =>
    xR Try.prog (sLoad 3 v84_87) (w86.drew) fun v85_88 =>
    xP Try.prog (sBin .add 3 (vs12.getD 0 undef) (.int .i64 5)) fun v87_89 =>
    xP Try.prog (sIA 28 a3 (vs77.getD 0 undef)) fun v91_90 =>
    xR Try.prog (sLoad 3 v91_90) (w86.drew) fun v92_91 =>
    xE Try.prog (sCall 13 #[v85_88, (.int .i64 0), v87_89]) (w86.drew) fun v88_92 w93 =>
    xStill Try.prog (sLoad 3 v91_90) v92_91 w93 <|
    xE Try.prog (sCall 13 #[v92_91, (.int .i64 0), (.int .i64 52)]) w93 fun v93_94 w95 =>
    xE Try.prog (sCall 10 #[v19_1, v88_92]) w95 fun v96_96 w97 =>
    xJoin (fun J98 =>
      xE Try.prog (sCall 10 #[v21_3, v88_92]) w97 fun v100_99 w100 =>
      xR Try.prog (sEq .neq 3 false v96_96 v100_99) w100 fun v101_101 =>
      xIf v101_101 (
      J98 [(.bool true)] w100) (
      xE Try.prog (sCall 11 #[v19_1, v93_94]) w100 fun v105_102 w103 =>
      xE Try.prog (sCall 11 #[v21_3, v93_94]) w103 fun v108_104 w105 =>
      xR Try.prog (sEq .neq 3 false v105_102 v108_104) w105 fun v109_106 =>
      xIf v109_106 (
      J98 [(.bool true)] w105) (
      xP Try.prog (sBin .lss 3 v96_96 (.int .i64 0)) fun v113_107 =>
      xIf v113_107 (
      J98 [(.bool true)] w105) (
      xE Try.prog (sCall 16 #[v19_1]) w105 fun v118_108 w109 =>
      xP Try.prog (sBin .gtr 3 v96_96 v118_108) fun v119_110 =>
      xIf v119_110 (
      J98 [(.bool true)] w109) (
      xE Try.prog (sCall 16 #[v19_1]) w109 fun v124_111 w112 =>
      xP Try.prog (sBin .lss 3 v96_96 v124_111) fun v125_113 =>
      xIf v125_113 (
      xE Try.prog (sCall 14 #[v19_1, v96_96]) w112 fun v129_114 w115 =>
      xP Try.prog (sField 26 v129_114 0) fun v130_116 =>
      xE Try.prog (sCall 14 #[v19_1, v96_96]) w115 fun v133_117 w118 =>
      xP Try.prog (sField 26 v133_117 1) fun v134_119 =>
      xP Try.prog (sBin .add 3 v130_116 v134_119) fun v135_120 =>
      xP Try.prog (sBin .leq 3 v135_120 v88_92) fun v137_121 =>
      xIf v137_121 (
      J98 [(.bool true)] w118) (
      xP Try.prog (sBin .gtr 3 v96_96 (.int .i64 0)) fun v142_122 =>
      xIf v142_122 (
      xP Try.prog (sBin .sub 3 v96_96 (.int .i64 1)) fun v146_123 =>
      xE Try.prog (sCall 14 #[v19_1, v146_123]) w118 fun v147_124 w125 =>
      xP Try.prog (sField 26 v147_124 0) fun v148_126 =>
      xP Try.prog (sBin .sub 3 v96_96 (.int .i64 1)) fun v151_127 =>
      xE Try.prog (sCall 14 #[v19_1, v151_127]) w125 fun v152_128 w129 =>
      xP Try.prog (sField 26 v152_128 1) fun v153_130 =>
      xP Try.prog (sBin .add 3 v148_126 v153_130) fun v154_131 =>
      xP Try.prog (sBin .gtr 3 v154_131 v88_92) fun v156_132 =>
      J98 [v156_132] w129) (
      J98 [(.bool false)] w118))) (
      xP Try.prog (sBin .gtr 3 v96_96 (.int .i64 0)) fun v142_133 =>
      xIf v142_133 (
      xP Try.prog (sBin .sub 3 v96_96 (.int .i64 1)) fun v146_134 =>
      xE Try.prog (sCall 14 #[v19_1, v146_134]) w112 fun v147_135 w136 =>
      xP Try.prog (sField 26 v147_135 0) fun v148_137 =>
      xP Try.prog (sBin .sub 3 v96_96 (.int .i64 1)) fun v151_138 =>
      xE Try.prog (sCall 14 #[v19_1, v151_138]) w136 fun v152_139 w140 =>
      xP Try.prog (sField 26 v152_139 1) fun v153_141 =>
      xP Try.prog (sBin .add 3 v148_137 v153_141) fun v154_142 =>
      xP Try.prog (sBin .gtr 3 v154_142 v88_92) fun v156_143 =>
      J98 [v156_143] w140) (
      J98 [(.bool false)] w112))))))) fun vs144 _ w146 =>
    xIf (vs144.getD 0 undef) (
      R (.returned (.bool false)) w146) (
      xP Try.prog (sBin .add 3 (vs77.getD 0 undef) (.int .i64 1)) fun v81_147 =>
    J76 [v81_147] w146)) (
      xE Try.prog (sCall 16 #[v19_1]) w86 fun v160_148 w149 =>
  xE Try.prog (sCall 16 #[v21_3]) w149 fun v162_150 w151 =>
  xR Try.prog (sEq .eql 3 false v160_148 v162_150) w151 fun v163_152 =>
  xIf v163_152 (
  xE Try.prog (sCall 3 #[]) w151 fun v165_153 w154 =>
  R (.returned v165_153) w154) (
  R (.returned (.bool false)) w151))))
theorem C_IndexMarks {a0 : Value} {a1 : Value} {a2 : Value} {a3 : Value} {w : World} {R : Ending → World → Prop} (h : S_IndexMarks a0 a1 a2 a3 w R) : Calls Try.prog 6 #[a0, a1, a2, a3] w R :=
  funcVC_sound (an := A_IndexMarks) (args := [a0, a1, a2, a3]) (k := 4) Try.func6 (by kernel_rfl) rfl
    (Eq.mp (show S_IndexMarks a0 a1 a2 a3 w R = funcVC Try.prog Try.f6 A_IndexMarks [a0, a1, a2, a3] w R by kernel_rfl) h)

/-- stave/stavelaw16.IndexDrops -/
def A_IndexDrops : Ann := (.seq .nil (.seq .nil (.seq (.join [38] .nil .nil) (.seq .nil (.seq .nil (.seq (.seq .nil (.one (.loop [10, 11, 12] (.seq (.join [46] .nil .nil) .nil)))) (.seq .nil (.seq .nil (.seq .nil (.seq .nil (.seq .nil (.seq (.join [112] .nil .nil) (.seq (.seq .nil (.one (.loop [17] (.seq .nil (.seq (.one (.seq (.draw (.pre [0, 1, 2, 3, 5, 6, 7, 8, 4, 9] .nil) [0, 0, 0, 6, 15, 0, 0, 96, 224, 511]) .nil)) .nil))))) .nil)))))))))))))
def S_IndexDrops (a0 : Value) (a1 : Value) (a2 : Value) (a3 : Value) (w : World) (R : Ending → World → Prop) : Prop :=
  xE Try.prog (sCall 8 #[a0]) w fun v19_1 w2 =>
  xJoin (fun J3 =>
    xR Try.prog (sEq .eql 22 true v19_1 (.pointer none)) w2 fun v21_4 =>
    xIf v21_4 (
    J3 [(.bool true)] w2) (
    xE Try.prog (sCall 16 #[v19_1]) w2 fun v24_5 w6 =>
    xR Try.prog (sEq .neq 3 true v24_5 (.int .i64 0)) w6 fun v25_7 =>
    xIf v25_7 (
    J3 [(.bool true)] w6) (
    xP Try.prog (sBin .and 3 a3 (.int .i64 63)) fun v30_8 =>
    xE Try.prog (sCall 10 #[v19_1, v30_8]) w6 fun v31_9 w10 =>
    xR Try.prog (sEq .neq 3 true v31_9 (.int .i64 0)) w10 fun v32_11 =>
    xIf v32_11 (
    J3 [(.bool true)] w10) (
    xE Try.prog (sCall 11 #[v19_1, (.int .i64 3)]) w10 fun v36_12 w13 =>
    xR Try.prog (sEq .neq 3 true v36_12 (.int .i64 0)) w13 fun v37_14 =>
    J3 [v37_14] w13)))) fun vs15 _ w17 =>
  xIf (vs15.getD 0 undef) (
    R (.returned (.bool false)) w17) (
    xLoop [(.slice none 0 0), (.int .i64 0), (.int .i64 0)] w17 fun J18 vs19 _ w21 =>
    xJoin (fun J22 =>
      xP Try.prog (sB .len #[34] #[a1]) fun v41_23 =>
      xP Try.prog (sBin .lss 3 (vs19.getD 2 undef) v41_23) fun v42_24 =>
      xIf v42_24 (
      xP Try.prog (sBin .lss 3 (vs19.getD 2 undef) (.int .i64 40)) fun v45_25 =>
      J22 [v45_25] w21) (
      J22 [(.bool false)] w21)) fun vs26 _ w28 =>
    xIf (vs26.getD 0 undef) (
      xP Try.prog (sIA 34 a1 (vs19.getD 2 undef)) fun v52_29 =>
    xP Try.prog (sFA 37 v52_29 2) fun v53_30 =>
    xR Try.prog (sLoad 3 v53_30) w28 fun v54_31 =>
    xE Try.prog (sCall 13 #[v54_31, (.int .i64 1), (.int .i64 5)]) w28 fun v55_32 w33 =>
    xP Try.prog (sBuild 26 #[(0, (vs19.getD 1 undef)), (1, v55_32), (2, (vs19.getD 2 undef))]) fun v57_34 =>
    xE Try.prog (sAlloc 26) w33 fun v13_35 w36 =>
    xE Try.prog (sStore 26 v13_35 v57_34) w36 fun _ w37 =>
    xP Try.prog (sFA 26 v13_35 1) fun v59_38 =>
    xR Try.prog (sLoad 3 v59_38) w37 fun v60_39 =>
    xP Try.prog (sBin .add 3 (vs19.getD 1 undef) v60_39) fun v61_40 =>
    xR Try.prog (sLoad 26 v13_35) w37 fun v63_41 =>
    xE Try.prog (sCall 9 #[v19_1, v63_41]) w37 fun _ w43 =>
    xR Try.prog (sLoad 26 v13_35) w43 fun v66_44 =>
    xE Try.prog (sBuildSlice 35 1 #[(0, v66_44)]) w43 fun v67_45 w46 =>
    xE Try.prog (sB .append #[35, 35] #[(vs19.getD 0 undef), v67_45]) w46 fun v68_47 w48 =>
    xP Try.prog (sBin .add 3 (vs19.getD 2 undef) (.int .i64 1)) fun v48_49 =>
    J18 [v68_47, v61_40, v48_49] w48) (
      xP Try.prog (sB .len #[35] #[(vs19.getD 0 undef)]) fun v71_50 =>
  xE Try.prog (sCall 13 #[a2, (.int .i64 0), v71_50]) w28 fun v72_51 w52 =>
  xE Try.prog (sCall 13 #[a3, (.int .i64 0), (vs19.getD 1 undef)]) w52 fun v75_53 w54 =>
  xE Try.prog (sCall 10 #[v19_1, v75_53]) w54 fun v78_55 w56 =>
  xE Try.prog (sCall 15 #[v19_1, (.int .i64 (-1))]) w56 fun _ w58 =>
  xE Try.prog (sCall 15 #[v19_1, v72_51]) w58 fun _ w60 =>
  xJoin (fun J61 =>
    xE Try.prog (sCall 16 #[v19_1]) w60 fun v85_62 w63 =>
    xP Try.prog (sB .len #[35] #[(vs19.getD 0 undef)]) fun v87_64 =>
    xP Try.prog (sBin .sub 3 v87_64 v72_51) fun v89_65 =>
    xR Try.prog (sEq .neq 3 false v85_62 v89_65) w63 fun v90_66 =>
    xIf v90_66 (
    J61 [(.bool true)] w63) (
    xE Try.prog (sCall 10 #[v19_1, v75_53]) w63 fun v94_67 w68 =>
    xP Try.prog (sBin .sub 3 v78_55 v72_51) fun v97_69 =>
    xP Try.prog (sB .max #[3, 3] #[v97_69, (.int .i64 0)]) fun v98_70 =>
    xR Try.prog (sEq .neq 3 false v94_67 v98_70) w68 fun v99_71 =>
    xIf v99_71 (
    J61 [(.bool true)] w68) (
    xE Try.prog (sCall 11 #[v19_1, v72_51]) w68 fun v104_72 w73 =>
    xR Try.prog (sEq .neq 3 true v104_72 (.int .i64 0)) w73 fun v105_74 =>
    xIf v105_74 (
    xP Try.prog (sB .len #[35] #[(vs19.getD 0 undef)]) fun v108_75 =>
    xP Try.prog (sBin .gtr 3 v108_75 v72_51) fun v110_76 =>
    J61 [v110_76] w73) (
    J61 [(.bool false)] w73)))) fun vs77 _ w79 =>
  xIf (vs77.getD 0 undef) (
    R (.returned (.bool false)) w79) (
    xLoop [v72_51] w79 fun J80 vs81 _ w83 =>
    xP Try.prog (sB .len #[35] #[(vs19.getD 0 undef)]) fun v116_84 =>
    xP Try.prog (sBin .lss 3 (vs81.getD 0 undef) v116_84) fun v117_85 =>
    xIf v117_85 (
      xP Try.prog (sBin .sub 3 (vs81.getD 0 undef) v72_51) fun v123_86 =>
    xP Try.prog (sIA 35 (vs19.getD 0 undef) (vs81.getD 0 undef)) fun v127_87 =>
    xR Try.prog (sLoad 26 v127_87) (w83.drew) fun v128_88 =>
    xE Try.prog (sCall 14 #[v19_1, v123_86]) (w83.drew) fun v124_89 w90 =>
    xStill Try.prog (sLoad 26 v127_87) v128_88 w90 <|
    xR Try.prog (sEq .neq 26 false v124_89 v128_88) w90 fun v129_91 =>
    xIf v129_91 (
      R (.returned (.bool false)) w90) (
      xP Try.prog (sBin .add 3 (vs81.getD 0 undef) (.int .i64 1)) fun v119_92 =>
    J80 [v119_92] w90)) (
      xE Try.prog (sCall 15 #[v19_1, (.int .i64 1099511627776)]) w83 fun _ w94 =>
  xE Try.prog (sCall 16 #[v19_1]) w94 fun v133_95 w96 =>
  xR Try.prog (sEq .eql 3 true v133_95 (.int .i64 0)) w96 fun v134_97 =>
  xIf v134_97 (
  xE Try.prog (sCall 10 #[v19_1, v75_53]) w96 fun v138_98 w99 =>
  xR Try.prog (sEq .eql 3 true v138_98 (.int .i64 0)) w99 fun v139_100 =>
  xIf v139_100 (
  xE Try.prog (sCall 14 #[v19_1, (.int .i64 0)]) w99 fun v143_101 w102 =>
  xP Try.prog (sBuild 26 #[]) fun v144_103 =>
  xR Try.prog (sEq .eql 26 false v143_101 v144_103) w102 fun v145_104 =>
  xIf v145_104 (
  xE Try.prog (sCall 3 #[]) w102 fun v148_105 w106 =>
  R (.returned v148_105) w106) (
  R (.returned (.bool false)) w102)) (
  R (.returned (.bool false)) w99)) (
  R (.returned (.bool false)) w96)))))
theorem C_IndexDrops {a0 : Value} {a1 : Value} {a2 : Value} {a3 : Value} {w : World} {R : Ending → World → Prop} (h : S_IndexDrops a0 a1 a2 a3 w R) : Calls Try.prog 7 #[a0, a1, a2, a3] w R :=
  funcVC_sound (an := A_IndexDrops) (args := [a0, a1, a2, a3]) (k := 4) Try.func7 (by kernel_rfl) rfl
    (Eq.mp (show S_IndexDrops a0 a1 a2 a3 w R = funcVC Try.prog Try.f7 A_IndexDrops [a0, a1, a2, a3] w R by kernel_rfl) h)

/-- stave/index.New -/
def A_New : Ann := .nil
def S_New (a0 : Value) (w : World) (R : Ending → World → Prop) : Prop :=
  xP Try.prog (sB .max #[3, 3] #[a0, (.int .i64 1)]) fun v4_1 =>
  xP Try.prog (sBuild 44 #[(0, v4_1)]) fun v5_2 =>
  xE Try.prog (sBox 44 v5_2) w fun v6_3 w4 =>
  R (.returned v6_3) w4
theorem C_New {a0 : Value} {w : World} {R : Ending → World → Prop} (h : S_New a0 w R) : Calls Try.prog 8 #[a0] w R :=
  funcVC_sound (an := A_New) (args := [a0]) (k := 1) Try.func8 (by kernel_rfl) rfl
    (Eq.mp (show S_New a0 w R = funcVC Try.prog Try.f8 A_New [a0] w R by kernel_rfl) h)

/-- (*stave/index.Index).Add -/
def A_Add : Ann := (.seq .nil (.seq (.draw (.pre [0, 1, 2, 3, 4, 5, 6, 7, 8, 9, 10] .nil) [0, 0, 2, 6, 14, 0, 32, 126, 255, 511, 1023]) .nil))
def S_Add (a0 : Value) (a1 : Value) (w : World) (R : Ending → World → Prop) : Prop :=
  xE Try.prog (sBox 26 a1) w fun v3_1 w2 =>
  xP Try.prog (sNil a0) fun v6_3 =>
  xP Try.prog (sFA 44 v6_3 1) fun v7_4 =>
  xR Try.prog (sLoad 35 v7_4) (w2.drew) fun v8_5 =>
  xR Try.prog (sLoad 26 v3_1) (w2.drew) fun v9_6 =>
  xE Try.prog (sBuildSlice 35 1 #[(0, v9_6)]) (w2.drew) fun v10_7 w8 =>
  xStill Try.prog (sLoad 35 v7_4) v8_5 w8 <|
  xE Try.prog (sB .append #[35, 35] #[v8_5, v10_7]) w8 fun v11_9 w10 =>
  xP Try.prog (sNil a0) fun v12_11 =>
  xP Try.prog (sFA 44 v12_11 1) fun v13_12 =>
  xE Try.prog (sStore 35 v13_12 v11_9) w10 fun _ w13 =>
  xE Try.prog (sCall 19 #[a0]) w13 fun _ w15 =>
  R (.returned (.tuple #[])) w15
theorem C_Add {a0 : Value} {a1 : Value} {w : World} {R : Ending → World → Prop} (h : S_Add a0 a1 w R) : Calls Try.prog 9 #[a0, a1] w R :=
  funcVC_sound (an := A_Add) (args := [a0, a1]) (k := 2) Try.func9 (by kernel_rfl) rfl
    (Eq.mp (show S_Add a0 a1 w R = funcVC Try.prog Try.f9 A_Add [a0, a1] w R by kernel_rfl) h)

/-- (*stave/index.Index).Seek -/
def A_Seek : Ann := (.seq .nil (.seq .nil (.seq (.draw (.pre [0, 1, 2, 3, 4, 5, 6, 7, 8, 9, 10, 11] .nil) [0, 0, 2, 6, 0, 16, 48, 112, 254, 0, 1023, 2047]) .nil)))
def S_Seek (a0 : Value) (a1 : Value) (w : World) (R : Ending → World → Prop) : Prop :=
  xE Try.prog (sBox 22 a0) w fun v2_1 w2 =>
  xE Try.prog (sBox 3 a1) w2 fun v3_3 w4 =>
  xR Try.prog (sLoad 22 v2_1) w4 fun v6_5 =>
  xP Try.prog (sNil v6_5) fun v7_6 =>
  xP Try.prog (sFA 44 v7_6 2) fun v8_7 =>
  xR Try.prog (sLoad 28 v8_7) w4 fun v9_8 =>
  xP Try.prog (sB .len #[28] #[v9_8]) fun v10_9 =>
  xP Try.prog (sFunc (.func 21) #[] #[v2_1, v3_3]) fun v11_10 =>
  xE Try.prog (sCall 20 #[v10_9, v11_10]) w4 fun v12_11 w12 =>
  xR Try.prog (sLoad 22 v2_1) (w12.drew) fun v13_13 =>
  xP Try.prog (sBin .sub 3 v12_11 (.int .i64 1)) fun v15_14 =>
  xP Try.prog (sB .max #[3, 3] #[v15_14, (.int .i64 0)]) fun v16_15 =>
  xR Try.prog (sLoad 22 v2_1) (w12.drew) fun v17_16 =>
  xP Try.prog (sNil v17_16) fun v18_17 =>
  xP Try.prog (sFA 44 v18_17 0) fun v19_18 =>
  xR Try.prog (sLoad 3 v19_18) (w12.drew) fun v20_19 =>
  xP Try.prog (sBin .mul 3 v16_15 v20_19) fun v21_20 =>
  xP Try.prog (sFunc (.func 23) #[] #[v3_3]) fun v22_21 =>
  xE Try.prog (sCall 22 #[v13_13, v21_20, v22_21]) (w12.drew) fun v23_22 w23 =>
  R (.returned v23_22) w23
theorem C_Seek {a0 : Value} {a1 : Value} {w : World} {R : Ending → World → Prop} (h : S_Seek a0 a1 w R) : Calls Try.prog 10 #[a0, a1] w R :=
  funcVC_sound (an := A_Seek) (args := [a0, a1]) (k := 2) Try.func10 (by kernel_rfl) rfl
    (Eq.mp (show S_Seek a0 a1 w R = funcVC Try.prog Try.f10 A_Seek [a0, a1] w R by kernel_rfl) h)

/-- (*stave/index.Index).When -/
def A_When : Ann := .nil
def S_When (a0 : Value) (a1 : Value) (w : World) (R : Ending → World → Prop) : Prop :=
  xE Try.prog (sBox 3 a1) w fun v3_1 w2 =>
  xP Try.prog (sFunc (.func 24) #[] #[v3_1]) fun v6_3 =>
  xE Try.prog (sCall 22 #[a0, (.int .i64 0), v6_3]) w2 fun v7_4 w5 =>
  R (.returned v7_4) w5
theorem C_When {a0 : Value} {a1 : Value} {w : World} {R : Ending → World → Prop} (h : S_When a0 a1 w R) : Calls Try.prog 11 #[a0, a1] w R :=
  funcVC_sound (an := A_When) (args := [a0, a1]) (k := 2) Try.func11 (by kernel_rfl) rfl
    (Eq.mp (show S_When a0 a1 w R = funcVC Try.prog Try.f11 A_When [a0, a1] w R by kernel_rfl) h)

/-- stave/stavebook.Same[int] -/
def A_Same : Ann := (.seq .nil (.seq .nil (.seq (.seq .nil (.one (.loop [5] (.seq .nil (.seq (.one (.seq (.draw (.pre [0, 1, 2, 3, 4, 5, 6, 7, 8] .nil) [0, 0, 3, 7, 0, 0, 48, 112, 255]) .nil)) .nil))))) .nil)))
def S_Same (a0 : Value) (a1 : Value) (w : World) (R : Ending → World → Prop) : Prop :=
  xP Try.prog (sB .len #[28] #[a0]) fun v7_1 =>
  xP Try.prog (sB .len #[28] #[a1]) fun v9_2 =>
  xR Try.prog (sEq .neq 3 false v7_1 v9_2) w fun v10_3 =>
  xIf v10_3 (
    R (.returned (.bool false)) w) (
    xLoop [(.int .i64 0)] w fun J4 vs5 _ w7 =>
    xP Try.prog (sB .len #[28] #[a0]) fun v13_8 =>
    xP Try.prog (sBin .lss 3 (vs5.getD 0 undef) v13_8) fun v14_9 =>
    xIf v14_9 (
      xP Try.prog (sIA 28 a0 (vs5.getD 0 undef)) fun v19_10 =>
    xR Try.prog (sLoad 3 v19_10) (w7.drew) fun v20_11 =>
    xP Try.prog (sIA 28 a1 (vs5.getD 0 undef)) fun v23_12 =>
    xR Try.prog (sLoad 3 v23_12) (w7.drew) fun v24_13 =>
    xR Try.prog (sEq .neq 3 false v20_11 v24_13) (w7.drew) fun v25_14 =>
    xIf v25_14 (
      R (.returned (.bool false)) (w7.drew)) (
      xP Try.prog (sBin .add 3 (vs5.getD 0 undef) (.int .i64 1)) fun v16_15 =>
    J4 [v16_15] (w7.drew))) (
      R (.returned (.bool true)) w7))
theorem C_Same {a0 : Value} {a1 : Value} {w : World} {R : Ending → World → Prop} (h : S_Same a0 a1 w R) : Calls Try.prog 12 #[a0, a1] w R :=
  funcVC_sound (an := A_Same) (args := [a0, a1]) (k := 2) Try.func12 (by kernel_rfl) rfl
    (Eq.mp (show S_Same a0 a1 w R = funcVC Try.prog Try.f12 A_Same [a0, a1] w R by kernel_rfl) h)

/-- stave/stavebook.Within -/
def A_Within : Ann := (.seq .nil (.seq .nil (.join [0] .nil .nil)))
def S_Within (a0 : Value) (a1 : Value) (a2 : Value) (w : World) (R : Ending → World → Prop) : Prop :=
  xP Try.prog (sBin .sub 3 a2 a1) fun v10_1 =>
  xP Try.prog (sBin .add 3 v10_1 (.int .i64 1)) fun v11_2 =>
  xP Try.prog (sBin .rem 3 a0 v11_2) fun v12_3 =>
  xJoin (fun J4 =>
    xP Try.prog (sBin .lss 3 v12_3 (.int .i64 0)) fun v14_5 =>
    xIf v14_5 (
      xP Try.prog (sBin .add 3 v12_3 a2) fun v17_6 =>
      xP Try.prog (sBin .sub 3 v17_6 a1) fun v19_7 =>
      xP Try.prog (sBin .add 3 v19_7 (.int .i64 1)) fun v20_8 =>
      J4 [v20_8] w) (
      J4 [v12_3] w)) fun vs9 _ w11 =>
  xP Try.prog (sBin .add 3 a1 (vs9.getD 0 undef)) fun v23_12 =>
  R (.returned v23_12) w11
theorem C_Within {a0 : Value} {a1 : Value} {a2 : Value} {w : World} {R : Ending → World → Prop} (h : S_Within a0 a1 a2 w R) : Calls Try.prog 13 #[a0, a1, a2] w R :=
  funcVC_sound (an := A_Within) (args := [a0, a1, a2]) (k := 3) Try.func13 (by kernel_rfl) rfl
    (Eq.mp (show S_Within a0 a1 a2 w R = funcVC Try.prog Try.f13 A_Within [a0, a1, a2] w R by kernel_rfl) h)

/-- (*stave/index.Index).Head -/
def A_Head : Ann := (.seq .nil (.seq (.join [15] .nil .nil) .nil))
def S_Head (a0 : Value) (a1 : Value) (w : World) (R : Ending → World → Prop) : Prop :=
  xE Try.prog (sAlloc 26) w fun v4_1 w2 =>
  xJoin (fun J3 =>
    xP Try.prog (sBin .lss 3 a1 (.int .i64 0)) fun v6_4 =>
    xIf v6_4 (
    J3 [(.bool true)] w2) (
    xP Try.prog (sNil a0) fun v10_5 =>
    xP Try.prog (sFA 44 v10_5 1) fun v11_6 =>
    xR Try.prog (sLoad 35 v11_6) w2 fun v12_7 =>
    xP Try.prog (sB .len #[35] #[v12_7]) fun v13_8 =>
    xP Try.prog (sBin .geq 3 a1 v13_8) fun v14_9 =>
    J3 [v14_9] w2)) fun vs10 _ w12 =>
  xIf (vs10.getD 0 undef) (
    xP Try.prog (sBuild 26 #[]) fun v16_13 =>
    xE Try.prog (sStore 26 v4_1 v16_13) w12 fun _ w14 =>
    xR Try.prog (sLoad 26 v4_1) w14 fun r15 => R (.returned r15) w14) (
    xP Try.prog (sNil a0) fun v18_16 =>
  xP Try.prog (sFA 44 v18_16 1) fun v19_17 =>
  xR Try.prog (sLoad 35 v19_17) w12 fun v20_18 =>
  xP Try.prog (sIA 35 v20_18 a1) fun v22_19 =>
  xR Try.prog (sLoad 26 v22_19) w12 fun v23_20 =>
  xE Try.prog (sStore 26 v4_1 v23_20) w12 fun _ w21 =>
  xR Try.prog (sLoad 26 v4_1) w21 fun r22 => R (.returned r22) w21)
theorem C_Head {a0 : Value} {a1 : Value} {w : World} {R : Ending → World → Prop} (h : S_Head a0 a1 w R) : Calls Try.prog 14 #[a0, a1] w R :=
  funcVC_sound (an := A_Head) (args := [a0, a1]) (k := 2) Try.func14 (by kernel_rfl) rfl
    (Eq.mp (show S_Head a0 a1 w R = funcVC Try.prog Try.f14 A_Head [a0, a1] w R by kernel_rfl) h)

/-- (*stave/index.Index).Drop -/
def A_Drop : Ann := (.seq (.draw (.pre [0, 1, 2, 3, 4, 5, 6, 7, 8, 9, 10, 11, 12, 13] .nil) [0, 1, 3, 7, 0, 16, 48, 112, 240, 0, 512, 2032, 4095, 8191]) (.seq .nil (.seq .nil (.one (.loop [28] .nil)))))
def S_Drop (a0 : Value) (a1 : Value) (w : World) (R : Ending → World → Prop) : Prop :=
  xP Try.prog (sNil a0) fun v8_1 =>
  xP Try.prog (sFA 44 v8_1 1) fun v9_2 =>
  xR Try.prog (sLoad 35 v9_2) (w.drew) fun v10_3 =>
  xP Try.prog (sNil a0) fun v12_4 =>
  xP Try.prog (sFA 44 v12_4 1) fun v13_5 =>
  xR Try.prog (sLoad 35 v13_5) (w.drew) fun v14_6 =>
  xP Try.prog (sB .len #[35] #[v14_6]) fun v15_7 =>
  xP Try.prog (sB .max #[3, 3] #[a1, (.int .i64 0)]) fun v17_8 =>
  xP Try.prog (sB .min #[3, 3] #[v15_7, v17_8]) fun v18_9 =>
  xP Try.prog (sSlice 35 v10_3 (some v18_9) none none) fun v19_10 =>
  xP Try.prog (sNil a0) fun v22_11 =>
  xP Try.prog (sFA 44 v22_11 1) fun v23_12 =>
  xE Try.prog (sStore 35 v23_12 (.slice none 0 0)) (w.drew) fun _ w13 =>
  xP Try.prog (sNil a0) fun v24_14 =>
  xP Try.prog (sFA 44 v24_14 2) fun v25_15 =>
  xE Try.prog (sStore 28 v25_15 (.slice none 0 0)) w13 fun _ w16 =>
  xP Try.prog (sB .len #[35] #[v19_10]) fun v27_17 =>
  xLoop [(.int .i64 0)] w16 fun J18 vs19 _ w21 =>
    xP Try.prog (sBin .lss 3 (vs19.getD 0 undef) v27_17) fun v29_22 =>
    xIf v29_22 (
      xP Try.prog (sIA 35 v19_10 (vs19.getD 0 undef)) fun v30_23 =>
    xR Try.prog (sLoad 26 v30_23) w21 fun v31_24 =>
    xE Try.prog (sAlloc 26) w21 fun v6_25 w26 =>
    xE Try.prog (sStore 26 v6_25 v31_24) w26 fun _ w27 =>
    xR Try.prog (sLoad 26 v6_25) w27 fun v33_28 =>
    xE Try.prog (sCall 9 #[a0, v33_28]) w27 fun _ w30 =>
    xP Try.prog (sBin .add 3 (vs19.getD 0 undef) (.int .i64 1)) fun v35_31 =>
    J18 [v35_31] w30) (
      R (.returned (.tuple #[])) w21)
theorem C_Drop {a0 : Value} {a1 : Value} {w : World} {R : Ending → World → Prop} (h : S_Drop a0 a1 w R) : Calls Try.prog 15 #[a0, a1] w R :=
  funcVC_sound (an := A_Drop) (args := [a0, a1]) (k := 2) Try.func15 (by kernel_rfl) rfl
    (Eq.mp (show S_Drop a0 a1 w R = funcVC Try.prog Try.f15 A_Drop [a0, a1] w R by kernel_rfl) h)

/-- (*stave/index.Index).Len -/
def A_Len : Ann := .nil
def S_Len (a0 : Value) (w : World) (R : Ending → World → Prop) : Prop :=
  xP Try.prog (sNil a0) fun v4_1 =>
  xP Try.prog (sFA 44 v4_1 1) fun v5_2 =>
  xR Try.prog (sLoad 35 v5_2) w fun v6_3 =>
  xP Try.prog (sB .len #[35] #[v6_3]) fun v7_4 =>
  R (.returned v7_4) w
theorem C_Len {a0 : Value} {w : World} {R : Ending → World → Prop} (h : S_Len a0 w R) : Calls Try.prog 16 #[a0] w R :=
  funcVC_sound (an := A_Len) (args := [a0]) (k := 1) Try.func16 (by kernel_rfl) rfl
    (Eq.mp (show S_Len a0 w R = funcVC Try.prog Try.f16 A_Len [a0] w R by kernel_rfl) h)

/-- stave/staveref14.Seek -/
def A_RSeek : Ann := (.seq .nil (.seq (.seq .nil (.one (.loop [9] .nil))) .nil))
def S_RSeek (a0 : Value) (a1 : Value) (w : World) (R : Ending → World → Prop) : Prop :=
  xP Try.prog (sB .len #[35] #[a0]) fun v8_1 =>
  xLoop [(.int .i64 0)] w fun J2 vs3 _ w5 =>
    xP Try.prog (sBin .lss 3 (vs3.getD 0 undef) v8_1) fun v10_6 =>
    xIf v10_6 (
      xP Try.prog (sIA 35 a0 (vs3.getD 0 undef)) fun v12_7 =>
    xR Try.prog (sLoad 26 v12_7) w5 fun v13_8 =>
    xE Try.prog (sAlloc 26) w5 fun v6_9 w10 =>
    xE Try.prog (sStore 26 v6_9 v13_8) w10 fun _ w11 =>
    xP Try.prog (sFA 26 v6_9 0) fun v15_12 =>
    xR Try.prog (sLoad 3 v15_12) w11 fun v16_13 =>
    xP Try.prog (sBin .sub 3 a1 v16_13) fun v17_14 =>
    xP Try.prog (sFA 26 v6_9 1) fun v18_15 =>
    xR Try.prog (sLoad 3 v18_15) w11 fun v19_16 =>
    xP Try.prog (sBin .lss 3 v17_14 v19_16) fun v20_17 =>
    xIf v20_17 (
      R (.returned (vs3.getD 0 undef)) w11) (
      xP Try.prog (sBin .add 3 (vs3.getD 0 undef) (.int .i64 1)) fun v22_18 =>
    J2 [v22_18] w11)) (
      xP Try.prog (sB .len #[35] #[a0]) fun v24_19 =>
  R (.returned v24_19) w5)
theorem C_RSeek {a0 : Value} {a1 : Value} {w : World} {R : Ending → World → Prop} (h : S_RSeek a0 a1 w R) : Calls Try.prog 17 #[a0, a1] w R :=
  funcVC_sound (an := A_RSeek) (args := [a0, a1]) (k := 2) Try.func17 (by kernel_rfl) rfl
    (Eq.mp (show S_RSeek a0 a1 w R = funcVC Try.prog Try.f17 A_RSeek [a0, a1] w R by kernel_rfl) h)

/-- stave/staveref14.When -/
def A_RWhen : Ann := (.seq .nil (.seq (.seq .nil (.one (.loop [9] .nil))) .nil))
def S_RWhen (a0 : Value) (a1 : Value) (w : World) (R : Ending → World → Prop) : Prop :=
  xP Try.prog (sB .len #[35] #[a0]) fun v8_1 =>
  xLoop [(.int .i64 0)] w fun J2 vs3 _ w5 =>
    xP Try.prog (sBin .lss 3 (vs3.getD 0 undef) v8_1) fun v10_6 =>
    xIf v10_6 (
      xP Try.prog (sIA 35 a0 (vs3.getD 0 undef)) fun v12_7 =>
    xR Try.prog (sLoad 26 v12_7) w5 fun v13_8 =>
    xE Try.prog (sAlloc 26) w5 fun v6_9 w10 =>
    xE Try.prog (sStore 26 v6_9 v13_8) w10 fun _ w11 =>
    xP Try.prog (sFA 26 v6_9 2) fun v14_12 =>
    xR Try.prog (sLoad 3 v14_12) w11 fun v15_13 =>
    xP Try.prog (sBin .geq 3 v15_13 a1) fun v17_14 =>
    xIf v17_14 (
      R (.returned (vs3.getD 0 undef)) w11) (
      xP Try.prog (sBin .add 3 (vs3.getD 0 undef) (.int .i64 1)) fun v19_15 =>
    J2 [v19_15] w11)) (
      xP Try.prog (sB .len #[35] #[a0]) fun v21_16 =>
  R (.returned v21_16) w5)
theorem C_RWhen {a0 : Value} {a1 : Value} {w : World} {R : Ending → World → Prop} (h : S_RWhen a0 a1 w R) : Calls Try.prog 18 #[a0, a1] w R :=
  funcVC_sound (an := A_RWhen) (args := [a0, a1]) (k := 2) Try.func18 (by kernel_rfl) rfl
    (Eq.mp (show S_RWhen a0 a1 w R = funcVC Try.prog Try.f18 A_RWhen [a0, a1] w R by kernel_rfl) h)

/-- (*stave/index.Index).mark -/
def A_mark : Ann := (.seq .nil (.seq .nil (.seq (.draw (.pre [0, 1, 2, 3, 4, 5, 6, 7, 8, 9, 10, 11, 12, 13, 14, 15, 16, 17] .nil) [0, 0, 2, 6, 14, 0, 32, 96, 224, 0, 992, 2016, 4064, 8160, 16382, 32767, 65535, 131071]) .nil)))
def S_mark (a0 : Value) (w : World) (R : Ending → World → Prop) : Prop :=
  xP Try.prog (sNil a0) fun v4_1 =>
  xP Try.prog (sFA 44 v4_1 1) fun v5_2 =>
  xR Try.prog (sLoad 35 v5_2) w fun v6_3 =>
  xP Try.prog (sB .len #[35] #[v6_3]) fun v7_4 =>
  xP Try.prog (sBin .sub 3 v7_4 (.int .i64 1)) fun v8_5 =>
  xP Try.prog (sNil a0) fun v11_6 =>
  xP Try.prog (sFA 44 v11_6 0) fun v12_7 =>
  xR Try.prog (sLoad 3 v12_7) w fun v13_8 =>
  xP Try.prog (sBin .rem 3 v8_5 v13_8) fun v14_9 =>
  xR Try.prog (sEq .eql 3 true v14_9 (.int .i64 0)) w fun v15_10 =>
  xIf v15_10 (
    xP Try.prog (sNil a0) fun v18_11 =>
    xP Try.prog (sFA 44 v18_11 2) fun v19_12 =>
    xR Try.prog (sLoad 28 v19_12) (w.drew) fun v20_13 =>
    xP Try.prog (sNil a0) fun v22_14 =>
    xP Try.prog (sFA 44 v22_14 1) fun v23_15 =>
    xR Try.prog (sLoad 35 v23_15) (w.drew) fun v24_16 =>
    xP Try.prog (sIA 35 v24_16 v8_5) fun v26_17 =>
    xP Try.prog (sFA 26 v26_17 0) fun v27_18 =>
    xR Try.prog (sLoad 3 v27_18) (w.drew) fun v28_19 =>
    xE Try.prog (sBuildSlice 28 1 #[(0, v28_19)]) (w.drew) fun v29_20 w21 =>
    xStill Try.prog (sLoad 28 v19_12) v20_13 w21 <|
    xE Try.prog (sB .append #[28, 28] #[v20_13, v29_20]) w21 fun v30_22 w23 =>
    xP Try.prog (sNil a0) fun v31_24 =>
    xP Try.prog (sFA 44 v31_24 2) fun v32_25 =>
    xE Try.prog (sStore 28 v32_25 v30_22) w23 fun _ w26 =>
    R (.returned (.tuple #[])) w26) (
    R (.returned (.tuple #[])) w)
theorem C_mark {a0 : Value} {w : World} {R : Ending → World → Prop} (h : S_mark a0 w R) : Calls Try.prog 19 #[a0] w R :=
  funcVC_sound (an := A_mark) (args := [a0]) (k := 1) Try.func19 (by kernel_rfl) rfl
    (Eq.mp (show S_mark a0 w R = funcVC Try.prog Try.f19 A_mark [a0] w R by kernel_rfl) h)

/-- sort.Search -/
def A_Search : Ann := (.seq .nil (.seq .nil (.seq (.one (.loop [5, 6] .nil)) .nil)))
def S_Search (a0 : Value) (a1 : Value) (w : World) (R : Ending → World → Prop) : Prop :=
  xLoop [(.int .i64 0), a0] w fun J1 vs2 _ w4 =>
    xP Try.prog (sBin .lss 3 (vs2.getD 0 undef) (vs2.getD 1 undef)) fun v11_5 =>
    xIf v11_5 (
      xP Try.prog (sBin .add 3 (vs2.getD 0 undef) (vs2.getD 1 undef)) fun v14_6 =>
    xP Try.prog (sConv 3 49 v14_6) fun v15_7 =>
    xP Try.prog (sBin .shr 49 v15_7 (.int .u64 1)) fun v16_8 =>
    xP Try.prog (sConv 49 3 v16_8) fun v17_9 =>
    xE Try.prog (sCallV a1 #[v17_9]) w4 fun v20_10 w11 =>
    xP Try.prog (sUn .not v20_10) fun v21_12 =>
    xIf v21_12 (
      xP Try.prog (sBin .add 3 v17_9 (.int .i64 1)) fun v23_13 =>
      J1 [v23_13, (vs2.getD 1 undef)] w11) (
      J1 [(vs2.getD 0 undef), v17_9] w11)) (
      R (.returned (vs2.getD 0 undef)) w4)
theorem C_Search {a0 : Value} {a1 : Value} {w : World} {R : Ending → World → Prop} (h : S_Search a0 a1 w R) : Calls Try.prog 20 #[a0, a1] w R :=
  funcVC_sound (an := A_Search) (args := [a0, a1]) (k := 2) Try.func20 (by kernel_rfl) rfl
    (Eq.mp (show S_Search a0 a1 w R = funcVC Try.prog Try.f20 A_Search [a0, a1] w R by kernel_rfl) h)

/-- (*stave/index.Index).Seek$1 -/
def A_Seek1 : Ann := (.seq .nil (.seq (.draw (.pre [0, 1, 2, 3, 4, 5, 6, 7, 8, 9] .nil) [0, 1, 3, 7, 0, 31, 63, 0, 255, 511]) .nil))
def S_Seek1 (a0 : Value) (a1 : Value) (a2 : Value) (w : World) (R : Ending → World → Prop) : Prop :=
  xR Try.prog (sLoad 22 a1) (w.drew) fun v5_1 =>
  xP Try.prog (sNil v5_1) fun v6_2 =>
  xP Try.prog (sFA 44 v6_2 2) fun v7_3 =>
  xR Try.prog (sLoad 28 v7_3) (w.drew) fun v8_4 =>
  xP Try.prog (sIA 28 v8_4 a0) fun v10_5 =>
  xR Try.prog (sLoad 3 v10_5) (w.drew) fun v11_6 =>
  xR Try.prog (sLoad 3 a2) (w.drew) fun v12_7 =>
  xP Try.prog (sBin .gtr 3 v11_6 v12_7) fun v13_8 =>
  R (.returned v13_8) (w.drew)
theorem C_Seek1 {a0 : Value} {a1 : Value} {a2 : Value} {w : World} {R : Ending → World → Prop} (h : S_Seek1 a0 a1 a2 w R) : Calls Try.prog 21 #[a0, a1, a2] w R :=
  funcVC_sound (an := A_Seek1) (args := [a0, a1, a2]) (k := 3) Try.func21 (by kernel_rfl) rfl
    (Eq.mp (show S_Seek1 a0 a1 a2 w R = funcVC Try.prog Try.f21 A_Seek1 [a0, a1, a2] w R by kernel_rfl) h)

/-- (*stave/index.Index).first -/
def A_first : Ann := .nil
def S_first (a0 : Value) (a1 : Value) (a2 : Value) (w : World) (R : Ending → World → Prop) : Prop :=
  xP Try.prog (sNil a0) fun v9_1 =>
  xP Try.prog (sFA 44 v9_1 1) fun v10_2 =>
  xR Try.prog (sLoad 35 v10_2) w fun v11_3 =>
  xP Try.prog (sSlice 35 v11_3 (some a1) none none) fun v13_4 =>
  xE Try.prog (sCall 25 #[v13_4, a2]) w fun v15_5 w6 =>
  xP Try.prog (sBin .lss 3 v15_5 (.int .i64 0)) fun v17_7 =>
  xIf v17_7 (
    xP Try.prog (sNil a0) fun v19_8 =>
    xP Try.prog (sFA 44 v19_8 1) fun v20_9 =>
    xR Try.prog (sLoad 35 v20_9) w6 fun v21_10 =>
    xP Try.prog (sB .len #[35] #[v21_10]) fun v22_11 =>
    R (.returned v22_11) w6) (
    xP Try.prog (sBin .add 3 a1 v15_5) fun v25_12 =>
  R (.returned v25_12) w6)
theorem C_first {a0 : Value} {a1 : Value} {a2 : Value} {w : World} {R : Ending → World → Prop} (h : S_first a0 a1 a2 w R) : Calls Try.prog 22 #[a0, a1, a2] w R :=
  funcVC_sound (an := A_first) (args := [a0, a1, a2]) (k := 3) Try.func22 (by kernel_rfl) rfl
    (Eq.mp (show S_first a0 a1 a2 w R = funcVC Try.prog Try.f22 A_first [a0, a1, a2] w R by kernel_rfl) h)

/-- (*stave/index.Index).Seek$2 -/
def A_Seek2 : Ann := .nil
def S_Seek2 (a0 : Value) (a1 : Value) (w : World) (R : Ending → World → Prop) : Prop :=
  xE Try.prog (sBox 26 a0) w fun v2_1 w2 =>
  xR Try.prog (sLoad 3 a1) w2 fun v4_3 =>
  xP Try.prog (sFA 26 v2_1 0) fun v5_4 =>
  xR Try.prog (sLoad 3 v5_4) w2 fun v6_5 =>
  xP Try.prog (sBin .sub 3 v4_3 v6_5) fun v7_6 =>
  xP Try.prog (sFA 26 v2_1 1) fun v8_7 =>
  xR Try.prog (sLoad 3 v8_7) w2 fun v9_8 =>
  xP Try.prog (sBin .lss 3 v7_6 v9_8) fun v10_9 =>
  R (.returned v10_9) w2
theorem C_Seek2 {a0 : Value} {a1 : Value} {w : World} {R : Ending → World → Prop} (h : S_Seek2 a0 a1 w R) : Calls Try.prog 23 #[a0, a1] w R :=
  funcVC_sound (an := A_Seek2) (args := [a0, a1]) (k := 2) Try.func23 (by kernel_rfl) rfl
    (Eq.mp (show S_Seek2 a0 a1 w R = funcVC Try.prog Try.f23 A_Seek2 [a0, a1] w R by kernel_rfl) h)

/-- (*stave/index.Index).When$1 -/
def A_When1 : Ann := .nil
def S_When1 (a0 : Value) (a1 : Value) (w : World) (R : Ending → World → Prop) : Prop :=
  xE Try.prog (sBox 26 a0) w fun v2_1 w2 =>
  xP Try.prog (sFA 26 v2_1 2) fun v4_3 =>
  xR Try.prog (sLoad 3 v4_3) w2 fun v5_4 =>
  xR Try.prog (sLoad 3 a1) w2 fun v6_5 =>
  xP Try.prog (sBin .geq 3 v5_4 v6_5) fun v7_6 =>
  R (.returned v7_6) w2
theorem C_When1 {a0 : Value} {a1 : Value} {w : World} {R : Ending → World → Prop} (h : S_When1 a0 a1 w R) : Calls Try.prog 24 #[a0, a1] w R :=
  funcVC_sound (an := A_When1) (args := [a0, a1]) (k := 2) Try.func24 (by kernel_rfl) rfl
    (Eq.mp (show S_When1 a0 a1 w R = funcVC Try.prog Try.f24 A_When1 [a0, a1] w R by kernel_rfl) h)

/-- slices.IndexFunc[[]stave/api.Head,stave/api.Head] -/
def A_IndexFunc : Ann := (.seq .nil (.seq (.seq .nil (.one (.loop [8] .nil))) .nil))
def S_IndexFunc (a0 : Value) (a1 : Value) (w : World) (R : Ending → World → Prop) : Prop :=
  xP Try.prog (sB .len #[35] #[a0]) fun v7_1 =>
  xLoop [(.int .i64 0)] w fun J2 vs3 _ w5 =>
    xP Try.prog (sBin .lss 3 (vs3.getD 0 undef) v7_1) fun v9_6 =>
    xIf v9_6 (
      xP Try.prog (sIA 35 a0 (vs3.getD 0 undef)) fun v14_7 =>
    xR Try.prog (sLoad 26 v14_7) w5 fun v15_8 =>
    xE Try.prog (sCallV a1 #[v15_8]) w5 fun v16_9 w10 =>
    xIf v16_9 (
      R (.returned (vs3.getD 0 undef)) w10) (
      xP Try.prog (sBin .add 3 (vs3.getD 0 undef) (.int .i64 1)) fun v18_11 =>
    J2 [v18_11] w10)) (
      R (.returned (.int .i64 (-1))) w5)
theorem C_IndexFunc {a0 : Value} {a1 : Value} {w : World} {R : Ending → World → Prop} (h : S_IndexFunc a0 a1 w R) : Calls Try.prog 25 #[a0, a1] w R :=
  funcVC_sound (an := A_IndexFunc) (args := [a0, a1]) (k := 2) Try.func25 (by kernel_rfl) rfl
    (Eq.mp (show S_IndexFunc a0 a1 w R = funcVC Try.prog Try.f25 A_IndexFunc [a0, a1] w R by kernel_rfl) h)

theorem FA_26_0 {K : Value → Prop} {b o : Nat} : xP Try.prog (sFA 26 (.pointer (some ⟨b, o, none⟩)) 0) K ↔ K (.pointer (some ⟨b, o + 0, none⟩)) := xP_FA (by kernel_rfl)
theorem FA_26_1 {K : Value → Prop} {b o : Nat} : xP Try.prog (sFA 26 (.pointer (some ⟨b, o, none⟩)) 1) K ↔ K (.pointer (some ⟨b, o + 1, none⟩)) := xP_FA (by kernel_rfl)
theorem FA_26_2 {K : Value → Prop} {b o : Nat} : xP Try.prog (sFA 26 (.pointer (some ⟨b, o, none⟩)) 2) K ↔ K (.pointer (some ⟨b, o + 2, none⟩)) := xP_FA (by kernel_rfl)
theorem FA_37_0 {K : Value → Prop} {b o : Nat} : xP Try.prog (sFA 37 (.pointer (some ⟨b, o, none⟩)) 0) K ↔ K (.pointer (some ⟨b, o + 0, none⟩)) := xP_FA (by kernel_rfl)
theorem FA_37_1 {K : Value → Prop} {b o : Nat} : xP Try.prog (sFA 37 (.pointer (some ⟨b, o, none⟩)) 1) K ↔ K (.pointer (some ⟨b, o + 1, none⟩)) := xP_FA (by kernel_rfl)
theorem FA_37_2 {K : Value → Prop} {b o : Nat} : xP Try.prog (sFA 37 (.pointer (some ⟨b, o, none⟩)) 2) K ↔ K (.pointer (some ⟨b, o + 2, none⟩)) := xP_FA (by kernel_rfl)
theorem FA_37_3 {K : Value → Prop} {b o : Nat} : xP Try.prog (sFA 37 (.pointer (some ⟨b, o, none⟩)) 3) K ↔ K (.pointer (some ⟨b, o + 3, none⟩)) := xP_FA (by kernel_rfl)
theorem FA_44_0 {K : Value → Prop} {b o : Nat} : xP Try.prog (sFA 44 (.pointer (some ⟨b, o, none⟩)) 0) K ↔ K (.pointer (some ⟨b, o + 0, none⟩)) := xP_FA (by kernel_rfl)
theorem FA_44_1 {K : Value → Prop} {b o : Nat} : xP Try.prog (sFA 44 (.pointer (some ⟨b, o, none⟩)) 1) K ↔ K (.pointer (some ⟨b, o + 1, none⟩)) := xP_FA (by kernel_rfl)
theorem FA_44_2 {K : Value → Prop} {b o : Nat} : xP Try.prog (sFA 44 (.pointer (some ⟨b, o, none⟩)) 2) K ↔ K (.pointer (some ⟨b, o + 2, none⟩)) := xP_FA (by kernel_rfl)
theorem FO_26_0 : fieldOneB Try.prog 26 0 0 = true := by kernel_rfl
theorem FO_26_1 : fieldOneB Try.prog 26 1 1 = true := by kernel_rfl
theorem PT_22 : ptrB Try.prog 22 := by unfold ptrB; kernel_rfl
theorem ONE_3 : oneB Try.prog 3 = true := by kernel_rfl
theorem SZ_3 : sizeB Try.prog 3 1 = true := by kernel_rfl
theorem ONE_22 : oneB Try.prog 22 = true := by kernel_rfl
theorem SZ_22 : sizeB Try.prog 22 1 = true := by kernel_rfl
theorem ONE_28 : oneB Try.prog 28 = true := by kernel_rfl
theorem SZ_28 : sizeB Try.prog 28 1 = true := by kernel_rfl
theorem ONE_35 : oneB Try.prog 35 = true := by kernel_rfl
theorem SZ_35 : sizeB Try.prog 35 1 = true := by kernel_rfl
theorem AGG_26 : aggB Try.prog 26 5 = true := by kernel_rfl
theorem SZ_26 : sizeB Try.prog 26 5 = true := by kernel_rfl
theorem AGG_37 : aggB Try.prog 37 4 = true := by kernel_rfl
theorem SZ_37 : sizeB Try.prog 37 4 = true := by kernel_rfl
theorem AGG_44 : aggB Try.prog 44 3 = true := by kernel_rfl
theorem SZ_44 : sizeB Try.prog 44 3 = true := by kernel_rfl
theorem Z_3 : zeroB Try.prog 3 (.int .i64 0) := by unfold zeroB; kernel_rfl
theorem Z_26 : zeroB Try.prog 26 (.agg #[.int .i64 0, .int .i64 0, .int .i64 0, .int .i64 0, .int .i64 0]) := by unfold zeroB; kernel_rfl
theorem Z_37 : zeroB Try.prog 37 (.agg #[.int .i64 0, .int .i64 0, .int .i64 0, .int .i64 0]) := by unfold zeroB; kernel_rfl
theorem SL_28 : sliceB Try.prog 28 3 = true := by kernel_rfl
theorem LEN_28 {K : Value → Prop} {a : Option Addr} {n c : Nat} : xP Try.prog (sB .len #[28] #[.slice a n c]) K ↔ K (.int .i64 n) := xP_len SL_28
theorem EL_28 : ElemB Try.prog 28 3 1 8 (.int .i64 0) := ⟨SL_28, by kernel_rfl, by kernel_rfl, Z_3, rfl, by decide⟩
theorem SL_34 : sliceB Try.prog 34 37 = true := by kernel_rfl
theorem LEN_34 {K : Value → Prop} {a : Option Addr} {n c : Nat} : xP Try.prog (sB .len #[34] #[.slice a n c]) K ↔ K (.int .i64 n) := xP_len SL_34
theorem EL_34 : ElemB Try.prog 34 37 4 32 (.agg #[.int .i64 0, .int .i64 0, .int .i64 0, .int .i64 0]) := ⟨SL_34, by kernel_rfl, by kernel_rfl, Z_37, rfl, by decide⟩
theorem SL_35 : sliceB Try.prog 35 26 = true := by kernel_rfl
theorem LEN_35 {K : Value → Prop} {a : Option Addr} {n c : Nat} : xP Try.prog (sB .len #[35] #[.slice a n c]) K ↔ K (.int .i64 n) := xP_len SL_35
theorem EL_35 : ElemB Try.prog 35 26 5 40 (.agg #[.int .i64 0, .int .i64 0, .int .i64 0, .int .i64 0, .int .i64 0]) := ⟨SL_35, by kernel_rfl, by kernel_rfl, Z_26, rfl, by decide⟩
theorem INT_2 : intB Try.prog 2 .i64 := by unfold intB; kernel_rfl
theorem INT_3 : intB Try.prog 3 .i64 := by unfold intB; kernel_rfl
theorem INT_5 : intB Try.prog 5 .u8 := by unfold intB; kernel_rfl
theorem INT_12 : intB Try.prog 12 .u64 := by unfold intB; kernel_rfl
theorem INT_21 : intB Try.prog 21 .i32 := by unfold intB; kernel_rfl
theorem INT_49 : intB Try.prog 49 .u64 := by unfold intB; kernel_rfl
theorem INT_57 : intB Try.prog 57 .u32 := by unfold intB; kernel_rfl
theorem CF_3 : calleeB Try.prog 3 = true := by kernel_rfl
theorem CF_8 : calleeB Try.prog 8 = true := by kernel_rfl
theorem CF_9 : calleeB Try.prog 9 = true := by kernel_rfl
theorem CF_10 : calleeB Try.prog 10 = true := by kernel_rfl
theorem CF_11 : calleeB Try.prog 11 = true := by kernel_rfl
theorem CF_12 : calleeB Try.prog 12 = true := by kernel_rfl
theorem CF_13 : calleeB Try.prog 13 = true := by kernel_rfl
theorem CF_14 : calleeB Try.prog 14 = true := by kernel_rfl
theorem CF_15 : calleeB Try.prog 15 = true := by kernel_rfl
theorem CF_16 : calleeB Try.prog 16 = true := by kernel_rfl
theorem CF_17 : calleeB Try.prog 17 = true := by kernel_rfl
theorem CF_18 : calleeB Try.prog 18 = true := by kernel_rfl
theorem CF_19 : calleeB Try.prog 19 = true := by kernel_rfl
theorem CF_20 : calleeB Try.prog 20 = true := by kernel_rfl
theorem CF_21 : calleeB Try.prog 21 = true := by kernel_rfl
theorem CF_22 : calleeB Try.prog 22 = true := by kernel_rfl
theorem CF_23 : calleeB Try.prog 23 = true := by kernel_rfl
theorem CF_24 : calleeB Try.prog 24 = true := by kernel_rfl
theorem CF_25 : calleeB Try.prog 25 = true := by kernel_rfl
end Go.Proofs.Ytolincflccddhaa
