import Derived.Test.YtbfaglbfpmnnmaaXStr
import Derived.Test.YtbfaglbfpmnnmaaRows
namespace Go.Proofs.Ytbfaglbfpmnnmaa
set_option linter.unusedSimpArgs false
set_option linter.unusedVariables false
open Go.X

/-- stave/stavelaw23.ReplyRuns -/
def A_stavelaw23_ReplyRuns : Ann := .nil
def S_stavelaw23_ReplyRuns (w : World) (R : Ending → World → Prop) : Prop :=
  xP Try.prog (sBuild 28 #[(0, (.int .i64 1)), (1, (.int .i64 10))]) fun v2_1 =>
  xE Try.prog (sCall 6 #[v2_1]) w fun v3_2 w3 =>
  xE Try.prog (sBuildSlice 22 23 #[(0, (.int .u8 1)), (1, (.int .u8 0)), (2, (.int .u8 0)), (3, (.int .u8 0)), (4, (.int .u8 10)), (5, (.int .u8 0)), (6, (.int .u8 0)), (7, (.int .u8 0)), (8, (.int .u8 0)), (9, (.int .u8 0)), (10, (.int .u8 0)), (11, (.int .u8 0)), (12, (.int .u8 0)), (13, (.int .u8 0)), (14, (.int .u8 0)), (15, (.int .u8 0)), (16, (.int .u8 0)), (17, (.int .u8 0)), (18, (.int .u8 0)), (19, (.int .u8 0)), (20, (.int .u8 0)), (21, (.int .u8 0)), (22, (.int .u8 0))]) w3 fun v5_4 w5 =>
  xE Try.prog (sCall 7 #[v3_2, v5_4]) w5 fun v6_6 w7 =>
  R (.returned v6_6) w7
theorem C_stavelaw23_ReplyRuns {w : World} {R : Ending → World → Prop} (h : S_stavelaw23_ReplyRuns  w R) : Calls Try.prog 3 #[] w R :=
  funcVC_sound (an := A_stavelaw23_ReplyRuns) (args := []) (k := 0) Try.func3 (by kernel_rfl) rfl
    (Eq.mp (show S_stavelaw23_ReplyRuns  w R = funcVC Try.prog Try.f3 A_stavelaw23_ReplyRuns [] w R by kernel_rfl) h)

/-- stave/stavelaw23.ReplyEnds -/
def A_stavelaw23_ReplyEnds : Ann := (.seq .nil (.seq .nil (.seq (.seq .nil (.one (.loop [8] (.seq .nil (.seq (.one (.draw (.pre [0, 1, 2, 3, 4, 5, 6, 7] .nil) [0, 1, 0, 4, 12, 31, 63, 127])) .nil))))) (.seq (.seq .nil (.one (.loop [9] (.seq .nil (.seq (.one (.draw (.pre [0, 1, 2, 3, 4, 5, 6, 7, 8] .nil) [0, 1, 0, 4, 12, 28, 63, 127, 255])) .nil))))) (.seq (.join [57] (.draw (.pre [0, 1, 2, 3, 4, 7, 8, 9, 10, 11, 12, 13, 14, 15, 16, 5, 6, 17, 18] .nil) [0, 1, 3, 7, 15, 31, 63, 15, 143, 399, 911, 1935, 15, 4111, 12303, 28687, 65423, 131071, 262143]) .nil) (.seq .nil (.join [] (.draw (.pre [1, 2, 5, 6] (.alt 0 (.pre [] (.alt 3 (.pre [8, 4, 7, 9, 10, 11] .nil) (.op 4 (.pre [3, 8, 7, 9, 10, 11] .nil)))) (.op 4 (.pre [0, 3, 8, 7, 9, 10, 11] .nil)))) [0, 0, 2, 7, 0, 0, 32, 127, 15, 511, 1023, 2047]) (.join [] (.seq .nil (.one (.seq .nil (.seq .nil (.seq .nil (.seq .nil (.seq .nil (.seq .nil (.seq .nil (.seq .nil (.seq .nil (.seq (.draw (.pre [0, 1, 2, 3, 4, 5] .nil) [0, 1, 0, 4, 15, 31]) (.seq .nil (.seq .nil (.seq .nil (.seq (.draw (.pre [0, 1, 2, 3, 4, 5, 6] .nil) [0, 1, 0, 4, 15, 31, 63]) .nil)))))))))))))))) .nil))))))))
def S_stavelaw23_ReplyEnds (a0 : Value) (a1 : Value) (a2 : Value) (w : World) (R : Ending → World → Prop) : Prop :=
  xP Try.prog (sBuild 28 #[(0, (.int .i64 4294967295)), (1, (.int .i64 255)), (2, (.int .i64 9223372036854775807)), (3, (.int .i64 9223372036854775807))]) fun v11_1 =>
  xE Try.prog (sAlloc 28) w fun v7_2 w3 =>
  xE Try.prog (sStore 28 v7_2 v11_1) w3 fun _ w4 =>
  xLoop [(.int .i64 0)] w4 fun J5 vs6 _ w8 =>
    xE Try.prog (sCall 8 #[a0, (.int .i64 1), (.int .i64 8)]) w8 fun v14_9 w10 =>
    xP Try.prog (sBin .lss 3 (vs6.getD 0 undef) v14_9) fun v15_11 =>
    xIf v15_11 (
      xP Try.prog (sFA 28 v7_2 4) fun v18_12 =>
    xR Try.prog (sLoad 25 v18_12) (w10.drew) fun v19_13 =>
    xE Try.prog (sMakeSlice 22 (.int .i64 24) (.int .i64 24)) (w10.drew) fun v20_14 w15 =>
    xStill Try.prog (sLoad 25 v18_12) v19_13 w15 <|
    xE Try.prog (sConv 22 9 v20_14) w15 fun v21_16 w17 =>
    xStill Try.prog (sLoad 25 v18_12) v19_13 w17 <|
    xE Try.prog (sBuildSlice 25 1 #[(0, v21_16)]) w17 fun v22_18 w19 =>
    xStill Try.prog (sLoad 25 v18_12) v19_13 w19 <|
    xE Try.prog (sB .append #[25, 25] #[v19_13, v22_18]) w19 fun v23_20 w21 =>
    xP Try.prog (sFA 28 v7_2 4) fun v24_22 =>
    xE Try.prog (sStore 25 v24_22 v23_20) w21 fun _ w23 =>
    xP Try.prog (sBin .add 3 (vs6.getD 0 undef) (.int .i64 1)) fun v17_24 =>
    J5 [v17_24] w23) (
      xLoop [(.int .i64 0)] w10 fun J25 vs26 _ w28 =>
    xE Try.prog (sCall 8 #[a1, (.int .i64 1), (.int .i64 4)]) w28 fun v27_29 w30 =>
    xP Try.prog (sBin .lss 3 (vs26.getD 0 undef) v27_29) fun v28_31 =>
    xIf v28_31 (
      xP Try.prog (sFA 28 v7_2 5) fun v31_32 =>
    xR Try.prog (sLoad 26 v31_32) (w30.drew) fun v32_33 =>
    xE Try.prog (sMakeSlice 22 (.int .i64 600) (.int .i64 600)) (w30.drew) fun v33_34 w35 =>
    xStill Try.prog (sLoad 26 v31_32) v32_33 w35 <|
    xE Try.prog (sConv 22 9 v33_34) w35 fun v34_36 w37 =>
    xStill Try.prog (sLoad 26 v31_32) v32_33 w37 <|
    xP Try.prog (sBuild 33 #[(0, (.int .i64 9223372036854775807)), (1, v34_36)]) fun v35_38 =>
    xE Try.prog (sBuildSlice 26 1 #[(0, v35_38)]) w37 fun v36_39 w40 =>
    xStill Try.prog (sLoad 26 v31_32) v32_33 w40 <|
    xE Try.prog (sB .append #[26, 26] #[v32_33, v36_39]) w40 fun v37_41 w42 =>
    xP Try.prog (sFA 28 v7_2 5) fun v38_43 =>
    xE Try.prog (sStore 26 v38_43 v37_41) w42 fun _ w44 =>
    xP Try.prog (sBin .add 3 (vs26.getD 0 undef) (.int .i64 1)) fun v30_45 =>
    J25 [v30_45] w44) (
      xJoin (fun J46 =>
    xR Try.prog (sLoad 28 v7_2) (w30.drew) fun v39_47 =>
    xE Try.prog (sCall 9 #[v39_47]) (w30.drew) fun v40_48 w49 =>
    xP Try.prog (sUn .not v40_48) fun v41_50 =>
    xIf v41_50 (
    J46 [(.bool true)] w49) (
    xR Try.prog (sLoad 28 v7_2) w49 fun v43_51 =>
    xP Try.prog (sFA 28 v7_2 4) fun v46_52 =>
    xR Try.prog (sLoad 25 v46_52) w49 fun v47_53 =>
    xP Try.prog (sB .len #[25] #[v47_53]) fun v48_54 =>
    xP Try.prog (sBin .mul 3 (.int .i64 26) v48_54) fun v49_55 =>
    xP Try.prog (sBin .add 3 (.int .i64 23) v49_55) fun v50_56 =>
    xP Try.prog (sFA 28 v7_2 5) fun v51_57 =>
    xR Try.prog (sLoad 26 v51_57) w49 fun v52_58 =>
    xP Try.prog (sB .len #[26] #[v52_58]) fun v53_59 =>
    xP Try.prog (sBin .mul 3 (.int .i64 610) v53_59) fun v54_60 =>
    xP Try.prog (sBin .add 3 v50_56 v54_60) fun v55_61 =>
    xE Try.prog (sCall 6 #[v43_51]) w49 fun v44_62 w63 =>
    xStill Try.prog (sLoad 26 v51_57) v52_58 w63 <|
    xStill Try.prog (sLoad 25 v46_52) v47_53 w63 <|
    xP Try.prog (sB .len #[22] #[v44_62]) fun v45_64 =>
    xR Try.prog (sEq .neq 3 false v45_64 v55_61) w63 fun v56_65 =>
    J46 [v56_65] w63)) fun vs66 _ w68 =>
  xIf (vs66.getD 0 undef) (
    R (.returned (.bool false)) w68) (
    xR Try.prog (sLoad 28 v7_2) w68 fun v58_69 =>
  xE Try.prog (sAlloc 28) w68 fun v10_70 w71 =>
  xE Try.prog (sStore 28 v10_70 v58_69) w71 fun _ w72 =>
  xJoin (fun J73 =>
    xP Try.prog (sFA 28 v7_2 4) fun v60_74 =>
    xR Try.prog (sLoad 25 v60_74) (w72.drew) fun v61_75 =>
    xP Try.prog (sFA 28 v7_2 5) fun v64_76 =>
    xR Try.prog (sLoad 26 v64_76) (w72.drew) fun v65_77 =>
    (xE Try.prog (sBuildSlice 25 0 #[]) (w72.drew) fun v59_78 w79 =>
    xStill Try.prog (sLoad 26 v64_76) v65_77 w79 <|
    xStill Try.prog (sLoad 25 v60_74) v61_75 w79 <|
    (xE Try.prog (sB .append #[25, 25] #[v59_78, v61_75]) w79 fun v62_80 w81 =>
    xStill Try.prog (sLoad 26 v64_76) v65_77 w81 <|
    xP Try.prog (sFA 28 v10_70 4) fun v67_82 =>
    xE Try.prog (sBuildSlice 26 0 #[]) w81 fun v63_83 w84 =>
    xStill Try.prog (sLoad 26 v64_76) v65_77 w84 <|
    xE Try.prog (sB .append #[26, 26] #[v63_83, v65_77]) w84 fun v66_85 w86 =>
    xE Try.prog (sStore 25 v67_82 v62_80) w86 fun _ w87 =>
    xP Try.prog (sFA 28 v10_70 5) fun v68_88 =>
    xE Try.prog (sStore 26 v68_88 v66_85) w87 fun _ w89 =>
    J73 [] w89) ∧
    (xE Try.prog (sBuildSlice 26 0 #[]) w79 fun v63_90 w91 =>
    xStill Try.prog (sLoad 26 v64_76) v65_77 w91 <|
    xStill Try.prog (sLoad 25 v60_74) v61_75 w91 <|
    xE Try.prog (sB .append #[25, 25] #[v59_78, v61_75]) w91 fun v62_92 w93 =>
    xStill Try.prog (sLoad 26 v64_76) v65_77 w93 <|
    xP Try.prog (sFA 28 v10_70 4) fun v67_94 =>
    xE Try.prog (sB .append #[26, 26] #[v63_90, v65_77]) w93 fun v66_95 w96 =>
    xE Try.prog (sStore 25 v67_94 v62_92) w96 fun _ w97 =>
    xP Try.prog (sFA 28 v10_70 5) fun v68_98 =>
    xE Try.prog (sStore 26 v68_98 v66_95) w97 fun _ w99 =>
    J73 [] w99)) ∧
    (xE Try.prog (sBuildSlice 26 0 #[]) (w72.drew) fun v63_100 w101 =>
    xStill Try.prog (sLoad 26 v64_76) v65_77 w101 <|
    xStill Try.prog (sLoad 25 v60_74) v61_75 w101 <|
    xE Try.prog (sBuildSlice 25 0 #[]) w101 fun v59_102 w103 =>
    xStill Try.prog (sLoad 26 v64_76) v65_77 w103 <|
    xStill Try.prog (sLoad 25 v60_74) v61_75 w103 <|
    xE Try.prog (sB .append #[25, 25] #[v59_102, v61_75]) w103 fun v62_104 w105 =>
    xStill Try.prog (sLoad 26 v64_76) v65_77 w105 <|
    xP Try.prog (sFA 28 v10_70 4) fun v67_106 =>
    xE Try.prog (sB .append #[26, 26] #[v63_100, v65_77]) w105 fun v66_107 w108 =>
    xE Try.prog (sStore 25 v67_106 v62_104) w108 fun _ w109 =>
    xP Try.prog (sFA 28 v10_70 5) fun v68_110 =>
    xE Try.prog (sStore 26 v68_110 v66_107) w109 fun _ w111 =>
    J73 [] w111)) fun _ _ w114 =>
  xJoin (fun J115 =>
    xE Try.prog (sCall 8 #[a2, (.int .i64 0), (.int .i64 6)]) w114 fun v70_116 w117 =>
    xR Try.prog (sEq .eql 3 true v70_116 (.int .i64 0)) w117 fun v72_118 =>
    xIf v72_118 (
      xP Try.prog (sFA 28 v10_70 0) fun v73_119 =>
      xR Try.prog (sLoad 3 v73_119) w117 fun v74_120 =>
      xP Try.prog (sBin .add 3 v74_120 (.int .i64 1)) fun v75_121 =>
      xP Try.prog (sFA 28 v10_70 0) fun v76_122 =>
      xE Try.prog (sStore 3 v76_122 v75_121) w117 fun _ w123 =>
      J115 [] w123) (
      xR Try.prog (sEq .eql 3 true v70_116 (.int .i64 1)) w117 fun v78_124 =>
      xIf v78_124 (
        xP Try.prog (sFA 28 v10_70 1) fun v79_125 =>
        xR Try.prog (sLoad 24 v79_125) w117 fun v80_126 =>
        xP Try.prog (sBin .add 24 v80_126 (.int .i64 1)) fun v81_127 =>
        xP Try.prog (sFA 28 v10_70 1) fun v82_128 =>
        xE Try.prog (sStore 24 v82_128 v81_127) w117 fun _ w129 =>
        J115 [] w129) (
        xR Try.prog (sEq .eql 3 true v70_116 (.int .i64 2)) w117 fun v84_130 =>
        xIf v84_130 (
          xP Try.prog (sFA 28 v10_70 2) fun v85_131 =>
          xE Try.prog (sStore 3 v85_131 (.int .i64 (-1))) w117 fun _ w132 =>
          J115 [] w132) (
          xR Try.prog (sEq .eql 3 true v70_116 (.int .i64 3)) w117 fun v87_133 =>
          xIf v87_133 (
            xP Try.prog (sFA 28 v10_70 3) fun v88_134 =>
            xE Try.prog (sStore 3 v88_134 (.int .i64 (-1))) w117 fun _ w135 =>
            J115 [] w135) (
            xR Try.prog (sEq .eql 3 true v70_116 (.int .i64 4)) w117 fun v90_136 =>
            xIf v90_136 (
              xP Try.prog (sFA 28 v10_70 4) fun v91_137 =>
              xR Try.prog (sLoad 25 v91_137) (w117.drew) fun v92_138 =>
              xE Try.prog (sMakeSlice 22 (.int .i64 25) (.int .i64 25)) (w117.drew) fun v93_139 w140 =>
              xStill Try.prog (sLoad 25 v91_137) v92_138 w140 <|
              xE Try.prog (sConv 22 9 v93_139) w140 fun v94_141 w142 =>
              xStill Try.prog (sLoad 25 v91_137) v92_138 w142 <|
              xP Try.prog (sIA 25 v92_138 (.int .i64 0)) fun v95_143 =>
              xE Try.prog (sStore 9 v95_143 v94_141) w142 fun _ w144 =>
              J115 [] w144) (
              xR Try.prog (sEq .eql 3 true v70_116 (.int .i64 5)) w117 fun v97_145 =>
              xIf v97_145 (
                xP Try.prog (sFA 28 v10_70 5) fun v98_146 =>
                xR Try.prog (sLoad 26 v98_146) w117 fun v99_147 =>
                xP Try.prog (sIA 26 v99_147 (.int .i64 0)) fun v100_148 =>
                xP Try.prog (sFA 33 v100_148 0) fun v101_149 =>
                xE Try.prog (sStore 3 v101_149 (.int .i64 (-1))) w117 fun _ w150 =>
                J115 [] w150) (
                xR Try.prog (sEq .eql 3 true v70_116 (.int .i64 6)) w117 fun v103_151 =>
                xIf v103_151 (
                  xP Try.prog (sFA 28 v10_70 5) fun v104_152 =>
                  xR Try.prog (sLoad 26 v104_152) (w117.drew) fun v105_153 =>
                  xE Try.prog (sMakeSlice 22 (.int .i64 601) (.int .i64 601)) (w117.drew) fun v106_154 w155 =>
                  xStill Try.prog (sLoad 26 v104_152) v105_153 w155 <|
                  xE Try.prog (sConv 22 9 v106_154) w155 fun v107_156 w157 =>
                  xStill Try.prog (sLoad 26 v104_152) v105_153 w157 <|
                  xP Try.prog (sIA 26 v105_153 (.int .i64 0)) fun v108_158 =>
                  xP Try.prog (sFA 33 v108_158 1) fun v109_159 =>
                  xE Try.prog (sStore 9 v109_159 v107_156) w157 fun _ w160 =>
                  J115 [] w160) (
                  J115 [] w117)))))))) fun _ _ w163 =>
  xR Try.prog (sLoad 28 v10_70) w163 fun v110_164 =>
  xE Try.prog (sCall 9 #[v110_164]) w163 fun v111_165 w166 =>
  xP Try.prog (sUn .not v111_165) fun v112_167 =>
  xIf v112_167 (
  xR Try.prog (sLoad 28 v10_70) w166 fun v114_168 =>
  xE Try.prog (sCall 6 #[v114_168]) w166 fun v115_169 w170 =>
  xP Try.prog (sB .len #[22] #[v115_169]) fun v116_171 =>
  xR Try.prog (sEq .eql 3 true v116_171 (.int .i64 0)) w170 fun v117_172 =>
  xIf v117_172 (
  xE Try.prog (sCall 3 #[]) w170 fun v120_173 w174 =>
  R (.returned v120_173) w174) (
  R (.returned (.bool false)) w170)) (
  R (.returned (.bool false)) w166))))
theorem C_stavelaw23_ReplyEnds {a0 : Value} {a1 : Value} {a2 : Value} {w : World} {R : Ending → World → Prop} (h : S_stavelaw23_ReplyEnds a0 a1 a2 w R) : Calls Try.prog 4 #[a0, a1, a2] w R :=
  funcVC_sound (an := A_stavelaw23_ReplyEnds) (args := [a0, a1, a2]) (k := 3) Try.func4 (by kernel_rfl) rfl
    (Eq.mp (show S_stavelaw23_ReplyEnds a0 a1 a2 w R = funcVC Try.prog Try.f4 A_stavelaw23_ReplyEnds [a0, a1, a2] w R by kernel_rfl) h)

/-- stave/stavelaw23.ReplyCanon -/
def A_stavelaw23_ReplyCanon : Ann := (.seq .nil (.seq .nil (.join [9] .nil .nil)))
def S_stavelaw23_ReplyCanon (a0 : Value) (a1 : Value) (a2 : Value) (a3 : Value) (w : World) (R : Ending → World → Prop) : Prop :=
  xE Try.prog (sBox 28 a0) w fun v4_1 w2 =>
  xE Try.prog (sBuildSlice 22 0 #[]) w2 fun v12_3 w4 =>
  xR Try.prog (sLoad 28 v4_1) w4 fun v13_5 =>
  xE Try.prog (sCall 10 #[v13_5]) w4 fun v14_6 w7 =>
  xE Try.prog (sCall 6 #[v14_6]) w7 fun v15_8 w9 =>
  xE Try.prog (sB .append #[22, 22] #[v12_3, v15_8]) w9 fun v16_10 w11 =>
  xJoin (fun J12 =>
    xP Try.prog (sB .len #[22] #[v16_10]) fun v18_13 =>
    xR Try.prog (sEq .eql 3 true v18_13 (.int .i64 0)) w11 fun v19_14 =>
    xIf v19_14 (
      xE Try.prog (sBuildSlice 22 0 #[]) w11 fun v20_15 w16 =>
      xP Try.prog (sB .len #[22] #[a1]) fun v23_17 =>
      xP Try.prog (sB .min #[3, 3] #[v23_17, (.int .i64 60)]) fun v24_18 =>
      xP Try.prog (sSlice 22 a1 none (some v24_18) none) fun v25_19 =>
      xE Try.prog (sB .append #[22, 22] #[v20_15, v25_19]) w16 fun v26_20 w21 =>
      J12 [v26_20] w21) (
      xP Try.prog (sB .len #[22] #[v16_10]) fun v30_22 =>
      xP Try.prog (sBin .sub 3 v30_22 (.int .i64 1)) fun v31_23 =>
      xE Try.prog (sCall 8 #[a2, (.int .i64 0), v31_23]) w11 fun v32_24 w25 =>
      xP Try.prog (sIA 22 v16_10 v32_24) fun v33_26 =>
      xR Try.prog (sLoad 5 v33_26) w25 fun v34_27 =>
      xP Try.prog (sBin .xor 5 v34_27 a3) fun v36_28 =>
      xP Try.prog (sIA 22 v16_10 v32_24) fun v37_29 =>
      xE Try.prog (sStore 5 v37_29 v36_28) w25 fun _ w30 =>
      J12 [v16_10] w30)) fun vs31 _ w33 =>
  xE Try.prog (sCall 11 #[(vs31.getD 0 undef)]) w33 fun v40_34 w35 =>
  xP Try.prog (sExtract v40_34 0) fun v41_36 =>
  xP Try.prog (sExtract v40_34 1) fun v42_37 =>
  xE Try.prog (sAlloc 28) w35 fun v10_38 w39 =>
  xE Try.prog (sStore 28 v10_38 v41_36) w39 fun _ w40 =>
  xR Try.prog (sEq .neq 38 true v42_37 (.nilIface)) w40 fun v44_41 =>
  xIf v44_41 (
    xR Try.prog (sLoad 28 v10_38) w40 fun v45_42 =>
    xP Try.prog (sBuild 28 #[]) fun v46_43 =>
    xE Try.prog (sCall 12 #[v45_42, v46_43]) w40 fun v47_44 w45 =>
    xIf v47_44 (
    xE Try.prog (sCall 3 #[]) w45 fun v49_46 w47 =>
    R (.returned v49_46) w47) (
    R (.returned (.bool false)) w45)) (
    xR Try.prog (sLoad 28 v10_38) w40 fun v51_48 =>
  xE Try.prog (sCall 9 #[v51_48]) w40 fun v52_49 w50 =>
  xIf v52_49 (
  xR Try.prog (sLoad 28 v10_38) w50 fun v54_51 =>
  xE Try.prog (sCall 6 #[v54_51]) w50 fun v55_52 w53 =>
  xE Try.prog (sCall 7 #[v55_52, (vs31.getD 0 undef)]) w53 fun v57_54 w55 =>
  xIf v57_54 (
  xE Try.prog (sCall 3 #[]) w55 fun v60_56 w57 =>
  R (.returned v60_56) w57) (
  R (.returned (.bool false)) w55)) (
  R (.returned (.bool false)) w50))
theorem C_stavelaw23_ReplyCanon {a0 : Value} {a1 : Value} {a2 : Value} {a3 : Value} {w : World} {R : Ending → World → Prop} (h : S_stavelaw23_ReplyCanon a0 a1 a2 a3 w R) : Calls Try.prog 5 #[a0, a1, a2, a3] w R :=
  funcVC_sound (an := A_stavelaw23_ReplyCanon) (args := [a0, a1, a2, a3]) (k := 4) Try.func5 (by kernel_rfl) rfl
    (Eq.mp (show S_stavelaw23_ReplyCanon a0 a1 a2 a3 w R = funcVC Try.prog Try.f5 A_stavelaw23_ReplyCanon [a0, a1, a2, a3] w R by kernel_rfl) h)

/-- stave/reply.Put -/
def A_reply_Put : Ann := .nil
def S_reply_Put (a0 : Value) (w : World) (R : Ending → World → Prop) : Prop :=
  xE Try.prog (sBox 28 a0) w fun v1_1 w2 =>
  xR Try.prog (sLoad 28 v1_1) w2 fun v5_3 =>
  xE Try.prog (sCall 9 #[v5_3]) w2 fun v6_4 w5 =>
  xP Try.prog (sUn .not v6_4) fun v7_6 =>
  xIf v7_6 (
    R (.returned (.slice none 0 0)) w5) (
    xR Try.prog (sLoad 28 v1_1) w5 fun v9_7 =>
  xE Try.prog (sCall 13 #[v9_7]) w5 fun v10_8 w9 =>
  xP Try.prog (sExtract v10_8 0) fun v11_10 =>
  xP Try.prog (sExtract v10_8 1) fun _ =>
  R (.returned v11_10) w9)
theorem C_reply_Put {a0 : Value} {w : World} {R : Ending → World → Prop} (h : S_reply_Put a0 w R) : Calls Try.prog 6 #[a0] w R :=
  funcVC_sound (an := A_reply_Put) (args := [a0]) (k := 1) Try.func6 (by kernel_rfl) rfl
    (Eq.mp (show S_reply_Put a0 w R = funcVC Try.prog Try.f6 A_reply_Put [a0] w R by kernel_rfl) h)

/-- stave/stavebook.Same[byte] -/
def A_stavebook_Same_byte : Ann := (.seq .nil (.seq .nil (.seq (.seq .nil (.one (.loop [5] (.seq .nil (.seq (.one (.seq (.draw (.pre [0, 1, 2, 3, 4, 5, 6, 7, 8] .nil) [0, 0, 3, 7, 0, 0, 48, 112, 255]) .nil)) .nil))))) .nil)))
def S_stavebook_Same_byte (a0 : Value) (a1 : Value) (w : World) (R : Ending → World → Prop) : Prop :=
  xP Try.prog (sB .len #[22] #[a0]) fun v7_1 =>
  xP Try.prog (sB .len #[22] #[a1]) fun v9_2 =>
  xR Try.prog (sEq .neq 3 false v7_1 v9_2) w fun v10_3 =>
  xIf v10_3 (
    R (.returned (.bool false)) w) (
    xLoop [(.int .i64 0)] w fun J4 vs5 _ w7 =>
    xP Try.prog (sB .len #[22] #[a0]) fun v13_8 =>
    xP Try.prog (sBin .lss 3 (vs5.getD 0 undef) v13_8) fun v14_9 =>
    xIf v14_9 (
      xP Try.prog (sIA 22 a0 (vs5.getD 0 undef)) fun v19_10 =>
    xR Try.prog (sLoad 5 v19_10) (w7.drew) fun v20_11 =>
    xP Try.prog (sIA 22 a1 (vs5.getD 0 undef)) fun v23_12 =>
    xR Try.prog (sLoad 5 v23_12) (w7.drew) fun v24_13 =>
    xR Try.prog (sEq .neq 5 false v20_11 v24_13) (w7.drew) fun v25_14 =>
    xIf v25_14 (
      R (.returned (.bool false)) (w7.drew)) (
      xP Try.prog (sBin .add 3 (vs5.getD 0 undef) (.int .i64 1)) fun v16_15 =>
    J4 [v16_15] (w7.drew))) (
      R (.returned (.bool true)) w7))
theorem C_stavebook_Same_byte {a0 : Value} {a1 : Value} {w : World} {R : Ending → World → Prop} (h : S_stavebook_Same_byte a0 a1 w R) : Calls Try.prog 7 #[a0, a1] w R :=
  funcVC_sound (an := A_stavebook_Same_byte) (args := [a0, a1]) (k := 2) Try.func7 (by kernel_rfl) rfl
    (Eq.mp (show S_stavebook_Same_byte a0 a1 w R = funcVC Try.prog Try.f7 A_stavebook_Same_byte [a0, a1] w R by kernel_rfl) h)

/-- stave/stavebook.Within -/
def A_stavebook_Within : Ann := (.seq .nil (.seq .nil (.join [0] .nil .nil)))
def S_stavebook_Within (a0 : Value) (a1 : Value) (a2 : Value) (w : World) (R : Ending → World → Prop) : Prop :=
  xP Try.prog (sBin .sub 3 a2 a1) fun v10_1 =>
  xP Try.prog (sBin .add 3 v10_1 (.int .i64 1)) fun v11_2 =>
  xP Try.prog (sBin .rem 3 a0 v11_2) fun v12_3 =>
  xJoin (fun J4 =>
    xP Try.prog (sBin .lss 3 v12_3 (.int .i64 0)) fun v14_5 =>
    xIf v14_5 (
      xP Try.prog (sBin .add 3 v12_3 a2) fun v17_6 =>
      xP Try.prog (sBin .sub 3 v17_6 a1) fun v19_7 =>
      xP Try.prog (sBin .add 3 v19_7 (.int .i64 1)) fun v20_8 =>
      J4 [v20_8] w) (
      J4 [v12_3] w)) fun vs9 _ w11 =>
  xP Try.prog (sBin .add 3 a1 (vs9.getD 0 undef)) fun v23_12 =>
  R (.returned v23_12) w11
theorem C_stavebook_Within {a0 : Value} {a1 : Value} {a2 : Value} {w : World} {R : Ending → World → Prop} (h : S_stavebook_Within a0 a1 a2 w R) : Calls Try.prog 8 #[a0, a1, a2] w R :=
  funcVC_sound (an := A_stavebook_Within) (args := [a0, a1, a2]) (k := 3) Try.func8 (by kernel_rfl) rfl
    (Eq.mp (show S_stavebook_Within a0 a1 a2 w R = funcVC Try.prog Try.f8 A_stavebook_Within [a0, a1, a2] w R by kernel_rfl) h)

/-- stave/reply.Right -/
def A_reply_Right : Ann := .nil
def S_reply_Right (a0 : Value) (w : World) (R : Ending → World → Prop) : Prop :=
  xE Try.prog (sBox 28 a0) w fun v1_1 w2 =>
  xR Try.prog (sLoad 28 v1_1) w2 fun v6_3 =>
  xE Try.prog (sCall 13 #[v6_3]) w2 fun v7_4 w5 =>
  xP Try.prog (sExtract v7_4 0) fun _ =>
  xP Try.prog (sExtract v7_4 1) fun v9_7 =>
  xR Try.prog (sEq .eql 38 true v9_7 (.nilIface)) w5 fun v11_8 =>
  xIf v11_8 (
  xP Try.prog (sFA 28 v1_1 5) fun v13_9 =>
  xR Try.prog (sLoad 26 v13_9) w5 fun v14_10 =>
  xE Try.prog (sCall 14 #[v14_10, (.func (.func 15) #[] #[])]) w5 fun v15_11 w12 =>
  xP Try.prog (sUn .not v15_11) fun v16_13 =>
  R (.returned v16_13) w12) (
  R (.returned (.bool false)) w5)
theorem C_reply_Right {a0 : Value} {w : World} {R : Ending → World → Prop} (h : S_reply_Right a0 w R) : Calls Try.prog 9 #[a0] w R :=
  funcVC_sound (an := A_reply_Right) (args := [a0]) (k := 1) Try.func9 (by kernel_rfl) rfl
    (Eq.mp (show S_reply_Right a0 w R = funcVC Try.prog Try.f9 A_reply_Right [a0] w R by kernel_rfl) h)

/-- stave/stavelaw23.few -/
def A_stavelaw23_few : Ann := (.seq .nil (.seq .nil (.seq .nil (.seq (.seq .nil (.one (.loop [3, 5] (.seq (.join [15] .nil .nil) (.seq (.one (.draw (.pre [0, 1, 2, 3, 4, 5, 6, 7, 8, 9, 10, 11, 12, 13, 14, 15, 16] .nil) [0, 0, 2, 0, 14, 30, 0, 64, 0, 448, 960, 1984, 4032, 8190, 16382, 32767, 65535])) .nil))))) (.seq (.seq .nil (.one (.loop [4, 6] (.seq (.join [42] .nil .nil) (.seq (.one (.draw (.pre [0, 1, 2, 3, 4, 5, 6, 7, 8, 9, 10, 11, 12, 13, 14, 15, 16, 17, 18, 19, 20, 21, 22, 23, 24, 25] .nil) [0, 0, 2, 0, 14, 30, 62, 0, 128, 0, 896, 1920, 3968, 0, 8192, 0, 57344, 122880, 253952, 516096, 1040384, 2097024, 4194302, 8388606, 16777215, 33554431])) .nil))))) .nil)))))
def S_stavelaw23_few (a0 : Value) (w : World) (R : Ending → World → Prop) : Prop :=
  xE Try.prog (sBox 28 a0) w fun v1_1 w2 =>
  xE Try.prog (sAlloc 28) w2 fun v2_3 w4 =>
  xLoop [(.slice none 0 0), (.int .i64 0)] w4 fun J5 vs6 _ w8 =>
    xJoin (fun J9 =>
      xP Try.prog (sFA 28 v1_1 4) fun v8_10 =>
      xR Try.prog (sLoad 25 v8_10) w8 fun v9_11 =>
      xP Try.prog (sB .len #[25] #[v9_11]) fun v10_12 =>
      xP Try.prog (sBin .lss 3 (vs6.getD 1 undef) v10_12) fun v11_13 =>
      xIf v11_13 (
      xP Try.prog (sBin .lss 3 (vs6.getD 1 undef) (.int .i64 10)) fun v14_14 =>
      J9 [v14_14] w8) (
      J9 [(.bool false)] w8)) fun vs15 _ w17 =>
    xIf (vs15.getD 0 undef) (
      xP Try.prog (sFA 28 v1_1 4) fun v19_18 =>
    xR Try.prog (sLoad 25 v19_18) (w17.drew) fun v20_19 =>
    xP Try.prog (sIA 25 v20_19 (vs6.getD 1 undef)) fun v22_20 =>
    xR Try.prog (sLoad 9 v22_20) (w17.drew) fun v23_21 =>
    xP Try.prog (sFA 28 v1_1 4) fun v24_22 =>
    xR Try.prog (sLoad 25 v24_22) (w17.drew) fun v25_23 =>
    xP Try.prog (sIA 25 v25_23 (vs6.getD 1 undef)) fun v27_24 =>
    xR Try.prog (sLoad 9 v27_24) (w17.drew) fun v28_25 =>
    xP Try.prog (sB .len #[9] #[v28_25]) fun v29_26 =>
    xP Try.prog (sB .min #[3, 3] #[v29_26, (.int .i64 30)]) fun v30_27 =>
    xP Try.prog (sSlice 9 v23_21 none (some v30_27) none) fun v31_28 =>
    xE Try.prog (sBuildSlice 25 1 #[(0, v31_28)]) (w17.drew) fun v32_29 w30 =>
    xE Try.prog (sB .append #[25, 25] #[(vs6.getD 0 undef), v32_29]) w30 fun v33_31 w32 =>
    xP Try.prog (sBin .add 3 (vs6.getD 1 undef) (.int .i64 1)) fun v17_33 =>
    J5 [v33_31, v17_33] w32) (
      xLoop [(.slice none 0 0), (.int .i64 0)] w17 fun J34 vs35 _ w37 =>
    xJoin (fun J38 =>
      xP Try.prog (sFA 28 v1_1 5) fun v35_39 =>
      xR Try.prog (sLoad 26 v35_39) w37 fun v36_40 =>
      xP Try.prog (sB .len #[26] #[v36_40]) fun v37_41 =>
      xP Try.prog (sBin .lss 3 (vs35.getD 1 undef) v37_41) fun v38_42 =>
      xIf v38_42 (
      xP Try.prog (sBin .lss 3 (vs35.getD 1 undef) (.int .i64 6)) fun v41_43 =>
      J38 [v41_43] w37) (
      J38 [(.bool false)] w37)) fun vs44 _ w46 =>
    xIf (vs44.getD 0 undef) (
      xP Try.prog (sFA 28 v1_1 5) fun v46_47 =>
    xR Try.prog (sLoad 26 v46_47) (w46.drew) fun v47_48 =>
    xP Try.prog (sIA 26 v47_48 (vs35.getD 1 undef)) fun v49_49 =>
    xP Try.prog (sFA 33 v49_49 0) fun v50_50 =>
    xR Try.prog (sLoad 3 v50_50) (w46.drew) fun v51_51 =>
    xP Try.prog (sFA 28 v1_1 5) fun v52_52 =>
    xR Try.prog (sLoad 26 v52_52) (w46.drew) fun v53_53 =>
    xP Try.prog (sIA 26 v53_53 (vs35.getD 1 undef)) fun v55_54 =>
    xP Try.prog (sFA 33 v55_54 1) fun v56_55 =>
    xR Try.prog (sLoad 9 v56_55) (w46.drew) fun v57_56 =>
    xP Try.prog (sFA 28 v1_1 5) fun v58_57 =>
    xR Try.prog (sLoad 26 v58_57) (w46.drew) fun v59_58 =>
    xP Try.prog (sIA 26 v59_58 (vs35.getD 1 undef)) fun v61_59 =>
    xP Try.prog (sFA 33 v61_59 1) fun v62_60 =>
    xR Try.prog (sLoad 9 v62_60) (w46.drew) fun v63_61 =>
    xP Try.prog (sB .len #[9] #[v63_61]) fun v64_62 =>
    xP Try.prog (sB .min #[3, 3] #[v64_62, (.int .i64 610)]) fun v65_63 =>
    xP Try.prog (sSlice 9 v57_56 none (some v65_63) none) fun v66_64 =>
    xP Try.prog (sBuild 33 #[(0, v51_51), (1, v66_64)]) fun v67_65 =>
    xE Try.prog (sBuildSlice 26 1 #[(0, v67_65)]) (w46.drew) fun v68_66 w67 =>
    xE Try.prog (sB .append #[26, 26] #[(vs35.getD 0 undef), v68_66]) w67 fun v69_68 w69 =>
    xP Try.prog (sBin .add 3 (vs35.getD 1 undef) (.int .i64 1)) fun v44_70 =>
    J34 [v69_68, v44_70] w69) (
      xP Try.prog (sFA 28 v1_1 4) fun v72_71 =>
  xE Try.prog (sStore 25 v72_71 (vs6.getD 0 undef)) w46 fun _ w72 =>
  xP Try.prog (sFA 28 v1_1 5) fun v73_73 =>
  xE Try.prog (sStore 26 v73_73 (vs35.getD 0 undef)) w72 fun _ w74 =>
  xR Try.prog (sLoad 28 v1_1) w74 fun v74_75 =>
  xE Try.prog (sStore 28 v2_3 v74_75) w74 fun _ w76 =>
  xR Try.prog (sLoad 28 v2_3) w76 fun r77 => R (.returned r77) w76))
theorem C_stavelaw23_few {a0 : Value} {w : World} {R : Ending → World → Prop} (h : S_stavelaw23_few a0 w R) : Calls Try.prog 10 #[a0] w R :=
  funcVC_sound (an := A_stavelaw23_few) (args := [a0]) (k := 1) Try.func10 (by kernel_rfl) rfl
    (Eq.mp (show S_stavelaw23_few a0 w R = funcVC Try.prog Try.f10 A_stavelaw23_few [a0] w R by kernel_rfl) h)

/-- stave/reply.Get -/
def A_reply_Get : Ann := (.seq .nil (.seq .nil (.seq .nil (.seq (.draw (.pre [0, 1, 2, 3, 4, 5, 6, 7, 8, 9, 10, 11, 12, 13, 14, 15, 16, 17, 18, 19, 20, 21, 22] .nil) [0, 1, 3, 7, 0, 16, 48, 112, 0, 256, 768, 1792, 0, 4096, 12288, 28672, 0, 65536, 196608, 458752, 1048575, 0, 4194303]) (.seq (.seq .nil (.one (.loop [46] (.seq .nil (.seq .nil (.seq (.one (.seq .nil (.seq .nil (.draw (.pre [0, 1, 2, 3, 4, 5, 6, 7] .nil) [0, 1, 0, 4, 12, 31, 63, 127])))) .nil)))))) .nil)))))
def S_reply_Get (a0 : Value) (w : World) (R : Ending → World → Prop) : Prop :=
  xE Try.prog (sAlloc 28) w fun v2_1 w2 =>
  xE Try.prog (sCall 17 #[]) w2 fun v10_3 w4 =>
  xE Try.prog (sCall 16 #[v10_3, a0]) w4 fun v12_5 w6 =>
  xP Try.prog (sExtract v12_5 0) fun v13_7 =>
  xP Try.prog (sExtract v12_5 1) fun v14_8 =>
  xR Try.prog (sEq .neq 38 true v14_8 (.nilIface)) w6 fun v16_9 =>
  xIf v16_9 (
    xP Try.prog (sBuild 28 #[]) fun v17_10 =>
    xE Try.prog (sCall 18 #[(.string (ByteArray.mk #[114, 101, 112, 108, 121, 46, 71, 101, 116])), (.int .i64 0), v14_8]) w6 fun v19_11 w12 =>
    xE Try.prog (sStore 28 v2_1 v17_10) w12 fun _ w13 =>
    xR Try.prog (sLoad 28 v2_1) w13 fun r14 => R (.returned (.tuple #[r14, v19_11])) w13) (
    xP Try.prog (sIA 47 v13_7 (.int .i64 0)) fun v21_15 =>
  xP Try.prog (sFA 54 v21_15 0) fun v22_16 =>
  xR Try.prog (sLoad 3 v22_16) (w6.drew) fun v23_17 =>
  xP Try.prog (sIA 47 v13_7 (.int .i64 1)) fun v25_18 =>
  xP Try.prog (sFA 54 v25_18 0) fun v26_19 =>
  xR Try.prog (sLoad 3 v26_19) (w6.drew) fun v27_20 =>
  xP Try.prog (sIA 47 v13_7 (.int .i64 2)) fun v29_21 =>
  xP Try.prog (sFA 54 v29_21 0) fun v30_22 =>
  xR Try.prog (sLoad 3 v30_22) (w6.drew) fun v31_23 =>
  xP Try.prog (sIA 47 v13_7 (.int .i64 3)) fun v33_24 =>
  xP Try.prog (sFA 54 v33_24 0) fun v34_25 =>
  xR Try.prog (sLoad 3 v34_25) (w6.drew) fun v35_26 =>
  xP Try.prog (sIA 47 v13_7 (.int .i64 4)) fun v37_27 =>
  xP Try.prog (sFA 54 v37_27 2) fun v38_28 =>
  xR Try.prog (sLoad 25 v38_28) (w6.drew) fun v39_29 =>
  xP Try.prog (sBuild 28 #[(0, v23_17), (1, v27_20), (2, v31_23), (3, v35_26), (4, v39_29)]) fun v40_30 =>
  xE Try.prog (sAlloc 28) (w6.drew) fun v6_31 w32 =>
  xStill Try.prog (sLoad 25 v38_28) v39_29 w32 <|
  xStill Try.prog (sLoad 3 v34_25) v35_26 w32 <|
  xStill Try.prog (sLoad 3 v30_22) v31_23 w32 <|
  xStill Try.prog (sLoad 3 v26_19) v27_20 w32 <|
  xStill Try.prog (sLoad 3 v22_16) v23_17 w32 <|
  xE Try.prog (sStore 28 v6_31 v40_30) w32 fun _ w33 =>
  xP Try.prog (sIA 47 v13_7 (.int .i64 5)) fun v42_34 =>
  xP Try.prog (sFA 54 v42_34 2) fun v43_35 =>
  xR Try.prog (sLoad 25 v43_35) w33 fun v44_36 =>
  xP Try.prog (sB .len #[25] #[v44_36]) fun v45_37 =>
  xLoop [(.int .i64 0)] w33 fun J38 vs39 _ w41 =>
    xP Try.prog (sBin .lss 3 (vs39.getD 0 undef) v45_37) fun v47_42 =>
    xIf v47_42 (
      xP Try.prog (sIA 25 v44_36 (vs39.getD 0 undef)) fun v48_43 =>
    xR Try.prog (sLoad 9 v48_43) w41 fun v49_44 =>
    xP Try.prog (sB .len #[9] #[v49_44]) fun v51_45 =>
    xP Try.prog (sBin .lss 3 v51_45 (.int .i64 8)) fun v52_46 =>
    xIf v52_46 (
      xP Try.prog (sBuild 28 #[]) fun v53_47 =>
      xP Try.prog (sIface 24 (.int .i64 2)) fun v54_48 =>
      xE Try.prog (sCall 18 #[(.string (ByteArray.mk #[114, 101, 112, 108, 121, 46, 71, 101, 116])), (.int .i64 0), v54_48]) w41 fun v55_49 w50 =>
      xE Try.prog (sStore 28 v2_1 v53_47) w50 fun _ w51 =>
      xR Try.prog (sLoad 28 v2_1) w51 fun r52 => R (.returned (.tuple #[r52, v55_49])) w51) (
      xP Try.prog (sFA 28 v6_31 5) fun v56_53 =>
    xR Try.prog (sLoad 26 v56_53) (w41.drew) fun v57_54 =>
    xE Try.prog (sCall 19 #[v49_44]) (w41.drew) fun v59_55 w56 =>
    xStill Try.prog (sLoad 26 v56_53) v57_54 w56 <|
    xE Try.prog (sBuildSlice 26 1 #[(0, v59_55)]) w56 fun v60_57 w58 =>
    xStill Try.prog (sLoad 26 v56_53) v57_54 w58 <|
    xE Try.prog (sB .append #[26, 26] #[v57_54, v60_57]) w58 fun v61_59 w60 =>
    xP Try.prog (sFA 28 v6_31 5) fun v62_61 =>
    xE Try.prog (sStore 26 v62_61 v61_59) w60 fun _ w62 =>
    xP Try.prog (sBin .add 3 (vs39.getD 0 undef) (.int .i64 1)) fun v63_63 =>
    J38 [v63_63] w62)) (
      xR Try.prog (sLoad 28 v6_31) w41 fun v64_64 =>
  xE Try.prog (sCall 9 #[v64_64]) w41 fun v65_65 w66 =>
  xP Try.prog (sUn .not v65_65) fun v66_67 =>
  xIf v66_67 (
    xP Try.prog (sBuild 28 #[]) fun v67_68 =>
    xP Try.prog (sIface 24 (.int .i64 2)) fun v68_69 =>
    xE Try.prog (sCall 18 #[(.string (ByteArray.mk #[114, 101, 112, 108, 121, 46, 71, 101, 116])), (.int .i64 0), v68_69]) w66 fun v69_70 w71 =>
    xE Try.prog (sStore 28 v2_1 v67_68) w71 fun _ w72 =>
    xR Try.prog (sLoad 28 v2_1) w72 fun r73 => R (.returned (.tuple #[r73, v69_70])) w72) (
    xR Try.prog (sLoad 28 v6_31) w66 fun v70_74 =>
  xE Try.prog (sStore 28 v2_1 v70_74) w66 fun _ w75 =>
  xR Try.prog (sLoad 28 v2_1) w75 fun r76 => R (.returned (.tuple #[r76, (.nilIface)])) w75)))
theorem C_reply_Get {a0 : Value} {w : World} {R : Ending → World → Prop} (h : S_reply_Get a0 w R) : Calls Try.prog 11 #[a0] w R :=
  funcVC_sound (an := A_reply_Get) (args := [a0]) (k := 1) Try.func11 (by kernel_rfl) rfl
    (Eq.mp (show S_reply_Get a0 w R = funcVC Try.prog Try.f11 A_reply_Get [a0] w R by kernel_rfl) h)

/-- stave/stavekeep.Replies -/
def A_stavekeep_Replies : Ann := .nil
def S_stavekeep_Replies (a0 : Value) (a1 : Value) (w : World) (R : Ending → World → Prop) : Prop :=
  xE Try.prog (sBox 28 a0) w fun v2_1 w2 =>
  xE Try.prog (sBox 28 a1) w2 fun v3_3 w4 =>
  xP Try.prog (sFA 28 v2_1 0) fun v5_5 =>
  xR Try.prog (sLoad 3 v5_5) w4 fun v6_6 =>
  xP Try.prog (sFA 28 v3_3 0) fun v7_7 =>
  xR Try.prog (sLoad 3 v7_7) w4 fun v8_8 =>
  xR Try.prog (sEq .eql 3 false v6_6 v8_8) w4 fun v9_9 =>
  xIf v9_9 (
  xP Try.prog (sFA 28 v2_1 1) fun v11_10 =>
  xR Try.prog (sLoad 24 v11_10) w4 fun v12_11 =>
  xP Try.prog (sFA 28 v3_3 1) fun v13_12 =>
  xR Try.prog (sLoad 24 v13_12) w4 fun v14_13 =>
  xR Try.prog (sEq .eql 24 false v12_11 v14_13) w4 fun v15_14 =>
  xIf v15_14 (
  xP Try.prog (sFA 28 v2_1 2) fun v18_15 =>
  xR Try.prog (sLoad 3 v18_15) w4 fun v19_16 =>
  xP Try.prog (sFA 28 v3_3 2) fun v20_17 =>
  xR Try.prog (sLoad 3 v20_17) w4 fun v21_18 =>
  xR Try.prog (sEq .eql 3 false v19_16 v21_18) w4 fun v22_19 =>
  xIf v22_19 (
  xP Try.prog (sFA 28 v2_1 3) fun v25_20 =>
  xR Try.prog (sLoad 3 v25_20) w4 fun v26_21 =>
  xP Try.prog (sFA 28 v3_3 3) fun v27_22 =>
  xR Try.prog (sLoad 3 v27_22) w4 fun v28_23 =>
  xR Try.prog (sEq .eql 3 false v26_21 v28_23) w4 fun v29_24 =>
  xIf v29_24 (
  xP Try.prog (sFA 28 v2_1 4) fun v32_25 =>
  xR Try.prog (sLoad 25 v32_25) w4 fun v33_26 =>
  xP Try.prog (sFA 28 v3_3 4) fun v34_27 =>
  xR Try.prog (sLoad 25 v34_27) w4 fun v35_28 =>
  xE Try.prog (sCall 20 #[v33_26, v35_28]) w4 fun v36_29 w30 =>
  xIf v36_29 (
  xP Try.prog (sFA 28 v2_1 5) fun v39_31 =>
  xR Try.prog (sLoad 26 v39_31) w30 fun v40_32 =>
  xP Try.prog (sFA 28 v3_3 5) fun v41_33 =>
  xR Try.prog (sLoad 26 v41_33) w30 fun v42_34 =>
  xE Try.prog (sCall 21 #[v40_32, v42_34]) w30 fun v43_35 w36 =>
  R (.returned v43_35) w36) (
  R (.returned (.bool false)) w30)) (
  R (.returned (.bool false)) w4)) (
  R (.returned (.bool false)) w4)) (
  R (.returned (.bool false)) w4)) (
  R (.returned (.bool false)) w4)
theorem C_stavekeep_Replies {a0 : Value} {a1 : Value} {w : World} {R : Ending → World → Prop} (h : S_stavekeep_Replies a0 a1 w R) : Calls Try.prog 12 #[a0, a1] w R :=
  funcVC_sound (an := A_stavekeep_Replies) (args := [a0, a1]) (k := 2) Try.func12 (by kernel_rfl) rfl
    (Eq.mp (show S_stavekeep_Replies a0 a1 w R = funcVC Try.prog Try.f12 A_stavekeep_Replies [a0, a1] w R by kernel_rfl) h)

/-- stave/reply.put -/
def A_reply_put : Ann := (.seq .nil (.seq .nil (.seq (.seq .nil (.one (.loop [4, 10] .nil))) (.seq (.draw (.pre [1, 2, 3, 4, 5, 6, 7, 8, 9, 10, 11, 12, 13, 14, 15, 16, 17] (.alt 0 (.pre [18, 19, 20, 21, 22, 23] .nil) (.op 18 (.pre [0, 19, 20, 21, 22, 23] .nil)))) [0, 0, 2, 6, 0, 16, 48, 0, 128, 384, 0, 1024, 3072, 0, 8192, 24576, 0, 65536, 262142, 524287, 1048575, 1048575, 4194303, 8388607]) .nil))))
def S_reply_put (a0 : Value) (w : World) (R : Ending → World → Prop) : Prop :=
  xE Try.prog (sBox 28 a0) w fun v1_1 w2 =>
  xP Try.prog (sFA 28 v1_1 5) fun v7_3 =>
  xR Try.prog (sLoad 26 v7_3) w2 fun v8_4 =>
  xP Try.prog (sB .len #[26] #[v8_4]) fun v9_5 =>
  xLoop [(.slice none 0 0), (.int .i64 0)] w2 fun J6 vs7 _ w9 =>
    xP Try.prog (sBin .lss 3 (vs7.getD 1 undef) v9_5) fun v11_10 =>
    xIf v11_10 (
      xP Try.prog (sIA 26 v8_4 (vs7.getD 1 undef)) fun v12_11 =>
    xR Try.prog (sLoad 33 v12_11) w9 fun v13_12 =>
    xE Try.prog (sAlloc 33) w9 fun v6_13 w14 =>
    xE Try.prog (sStore 33 v6_13 v13_12) w14 fun _ w15 =>
    xR Try.prog (sLoad 33 v6_13) w15 fun v15_16 =>
    xE Try.prog (sCall 22 #[v15_16]) w15 fun v16_17 w18 =>
    xE Try.prog (sBuildSlice 25 1 #[(0, v16_17)]) w18 fun v17_19 w20 =>
    xE Try.prog (sB .append #[25, 25] #[(vs7.getD 0 undef), v17_19]) w20 fun v18_21 w22 =>
    xP Try.prog (sBin .add 3 (vs7.getD 1 undef) (.int .i64 1)) fun v19_23 =>
    J6 [v18_21, v19_23] w22) (
      xP Try.prog (sFA 28 v1_1 0) fun v21_24 =>
  xR Try.prog (sLoad 3 v21_24) (w9.drew) fun v22_25 =>
  xP Try.prog (sBuild 54 #[(0, v22_25)]) fun v23_26 =>
  xP Try.prog (sFA 28 v1_1 1) fun v24_27 =>
  xR Try.prog (sLoad 24 v24_27) (w9.drew) fun v25_28 =>
  xP Try.prog (sBuild 54 #[(0, v25_28)]) fun v26_29 =>
  xP Try.prog (sFA 28 v1_1 2) fun v27_30 =>
  xR Try.prog (sLoad 3 v27_30) (w9.drew) fun v28_31 =>
  xP Try.prog (sBuild 54 #[(0, v28_31)]) fun v29_32 =>
  xP Try.prog (sFA 28 v1_1 3) fun v30_33 =>
  xR Try.prog (sLoad 3 v30_33) (w9.drew) fun v31_34 =>
  xP Try.prog (sBuild 54 #[(0, v31_34)]) fun v32_35 =>
  xP Try.prog (sFA 28 v1_1 4) fun v33_36 =>
  xR Try.prog (sLoad 25 v33_36) (w9.drew) fun v34_37 =>
  xP Try.prog (sBuild 54 #[(2, v34_37)]) fun v35_38 =>
  xP Try.prog (sBuild 54 #[(2, (vs7.getD 0 undef))]) fun v37_39 =>
  (xE Try.prog (sCall 17 #[]) (w9.drew) fun v20_40 w41 =>
  xStill Try.prog (sLoad 25 v33_36) v34_37 w41 <|
  xStill Try.prog (sLoad 3 v30_33) v31_34 w41 <|
  xStill Try.prog (sLoad 3 v27_30) v28_31 w41 <|
  xStill Try.prog (sLoad 24 v24_27) v25_28 w41 <|
  xStill Try.prog (sLoad 3 v21_24) v22_25 w41 <|
  xE Try.prog (sBuildSlice 47 6 #[(0, v23_26), (1, v26_29), (2, v29_32), (3, v32_35), (4, v35_38), (5, v37_39)]) w41 fun v38_42 w43 =>
  xE Try.prog (sCall 23 #[v20_40, v38_42]) w43 fun v39_44 w45 =>
  xP Try.prog (sExtract v39_44 0) fun v40_46 =>
  xP Try.prog (sExtract v39_44 1) fun v41_47 =>
  R (.returned (.tuple #[v40_46, v41_47])) w45) ∧
  (xE Try.prog (sBuildSlice 47 6 #[(0, v23_26), (1, v26_29), (2, v29_32), (3, v32_35), (4, v35_38), (5, v37_39)]) (w9.drew) fun v38_48 w49 =>
  xE Try.prog (sCall 17 #[]) w49 fun v20_50 w51 =>
  xE Try.prog (sCall 23 #[v20_50, v38_48]) w51 fun v39_52 w53 =>
  xP Try.prog (sExtract v39_52 0) fun v40_54 =>
  xP Try.prog (sExtract v39_52 1) fun v41_55 =>
  R (.returned (.tuple #[v40_54, v41_55])) w53))
theorem C_reply_put {a0 : Value} {w : World} {R : Ending → World → Prop} (h : S_reply_put a0 w R) : Calls Try.prog 13 #[a0] w R :=
  funcVC_sound (an := A_reply_put) (args := [a0]) (k := 1) Try.func13 (by kernel_rfl) rfl
    (Eq.mp (show S_reply_put a0 w R = funcVC Try.prog Try.f13 A_reply_put [a0] w R by kernel_rfl) h)

/-- slices.ContainsFunc[[]stave/api.Fetched,stave/api.Fetched] -/
def A_slices_ContainsFunc_api_Fetched : Ann := .nil
def S_slices_ContainsFunc_api_Fetched (a0 : Value) (a1 : Value) (w : World) (R : Ending → World → Prop) : Prop :=
  xE Try.prog (sCall 24 #[a0, a1]) w fun v7_1 w2 =>
  xP Try.prog (sBin .geq 3 v7_1 (.int .i64 0)) fun v8_3 =>
  R (.returned v8_3) w2
theorem C_slices_ContainsFunc_api_Fetched {a0 : Value} {a1 : Value} {w : World} {R : Ending → World → Prop} (h : S_slices_ContainsFunc_api_Fetched a0 a1 w R) : Calls Try.prog 14 #[a0, a1] w R :=
  funcVC_sound (an := A_slices_ContainsFunc_api_Fetched) (args := [a0, a1]) (k := 2) Try.func14 (by kernel_rfl) rfl
    (Eq.mp (show S_slices_ContainsFunc_api_Fetched a0 a1 w R = funcVC Try.prog Try.f14 A_slices_ContainsFunc_api_Fetched [a0, a1] w R by kernel_rfl) h)

/-- stave/reply.Right$1 -/
def A_reply_Rightx1 : Ann := .nil
def S_reply_Rightx1 (a0 : Value) (w : World) (R : Ending → World → Prop) : Prop :=
  xE Try.prog (sBox 33 a0) w fun v1_1 w2 =>
  xP Try.prog (sFA 33 v1_1 0) fun v3_3 =>
  xR Try.prog (sLoad 3 v3_3) w2 fun v4_4 =>
  xP Try.prog (sBin .lss 3 v4_4 (.int .i64 0)) fun v5_5 =>
  R (.returned v5_5) w2
theorem C_reply_Rightx1 {a0 : Value} {w : World} {R : Ending → World → Prop} (h : S_reply_Rightx1 a0 w R) : Calls Try.prog 15 #[a0] w R :=
  funcVC_sound (an := A_reply_Rightx1) (args := [a0]) (k := 1) Try.func15 (by kernel_rfl) rfl
    (Eq.mp (show S_reply_Rightx1 a0 w R = funcVC Try.prog Try.f15 A_reply_Rightx1 [a0] w R by kernel_rfl) h)

/-- stave/gram.Get -/
def A_gram_Get : Ann := (.seq .nil (.seq .nil (.seq .nil (.seq .nil (.seq (.seq .nil (.one (.loop [8, 25] .nil))) .nil)))))
def S_gram_Get (a0 : Value) (a1 : Value) (w : World) (R : Ending → World → Prop) : Prop :=
  xE Try.prog (sCall 25 #[a0]) w fun v14_1 w2 =>
  xP Try.prog (sBin .geq 3 v14_1 (.int .i64 0)) fun v16_3 =>
  xIf v16_3 (
    xP Try.prog (sIface 24 (.int .i64 1)) fun v18_4 =>
    xE Try.prog (sCall 18 #[(.string (ByteArray.mk #[103, 114, 97, 109, 46, 71, 101, 116])), v14_1, v18_4]) w2 fun v19_5 w6 =>
    R (.returned (.tuple #[(.slice none 0 0), v19_5])) w6) (
    xP Try.prog (sBuild 64 #[(0, a1)]) fun v21_7 =>
  xE Try.prog (sBox 64 v21_7) w2 fun v22_8 w9 =>
  xP Try.prog (sB .len #[50] #[a0]) fun v24_10 =>
  xLoop [(.slice none 0 0), (.int .i64 0)] w9 fun J11 vs12 _ w14 =>
    xP Try.prog (sBin .lss 3 (vs12.getD 1 undef) v24_10) fun v26_15 =>
    xIf v26_15 (
      xP Try.prog (sIA 50 a0 (vs12.getD 1 undef)) fun v27_16 =>
    xR Try.prog (sLoad 66 v27_16) w14 fun v28_17 =>
    xE Try.prog (sAlloc 66) w14 fun v10_18 w19 =>
    xE Try.prog (sStore 66 v10_18 v28_17) w19 fun _ w20 =>
    xP Try.prog (sNil v22_8) fun v30_21 =>
    xP Try.prog (sFA 64 v30_21 1) fun v31_22 =>
    xR Try.prog (sLoad 3 v31_22) w20 fun v32_23 =>
    xR Try.prog (sLoad 66 v10_18) w20 fun v34_24 =>
    xE Try.prog (sCall 26 #[v22_8, v34_24]) w20 fun v35_25 w26 =>
    xE Try.prog (sAlloc 54) w26 fun v12_27 w28 =>
    xE Try.prog (sStore 54 v12_27 v35_25) w28 fun _ w29 =>
    xP Try.prog (sNil v22_8) fun v37_30 =>
    xP Try.prog (sFA 64 v37_30 2) fun v38_31 =>
    xR Try.prog (sLoad 24 v38_31) w29 fun v39_32 =>
    xR Try.prog (sEq .neq 24 true v39_32 (.int .i64 0)) w29 fun v40_33 =>
    xIf v40_33 (
      xP Try.prog (sNil v22_8) fun v43_34 =>
      xP Try.prog (sFA 64 v43_34 2) fun v44_35 =>
      xR Try.prog (sLoad 24 v44_35) w29 fun v45_36 =>
      xP Try.prog (sIface 24 v45_36) fun v46_37 =>
      xE Try.prog (sCall 18 #[(.string (ByteArray.mk #[103, 114, 97, 109, 46, 71, 101, 116])), v32_23, v46_37]) w29 fun v47_38 w39 =>
      R (.returned (.tuple #[(.slice none 0 0), v47_38])) w39) (
      xR Try.prog (sLoad 54 v12_27) w29 fun v49_40 =>
    xE Try.prog (sBuildSlice 47 1 #[(0, v49_40)]) w29 fun v50_41 w42 =>
    xE Try.prog (sB .append #[47, 47] #[(vs12.getD 0 undef), v50_41]) w42 fun v51_43 w44 =>
    xP Try.prog (sBin .add 3 (vs12.getD 1 undef) (.int .i64 1)) fun v52_45 =>
    J11 [v51_43, v52_45] w44)) (
      xP Try.prog (sNil v22_8) fun v54_46 =>
  xP Try.prog (sFA 64 v54_46 1) fun v55_47 =>
  xR Try.prog (sLoad 3 v55_47) w14 fun v56_48 =>
  xP Try.prog (sB .len #[22] #[a1]) fun v58_49 =>
  xP Try.prog (sBin .lss 3 v56_48 v58_49) fun v59_50 =>
  xIf v59_50 (
    xP Try.prog (sNil v22_8) fun v61_51 =>
    xP Try.prog (sFA 64 v61_51 1) fun v62_52 =>
    xR Try.prog (sLoad 3 v62_52) w14 fun v63_53 =>
    xP Try.prog (sIface 24 (.int .i64 4)) fun v64_54 =>
    xE Try.prog (sCall 18 #[(.string (ByteArray.mk #[103, 114, 97, 109, 46, 71, 101, 116])), v63_53, v64_54]) w14 fun v65_55 w56 =>
    R (.returned (.tuple #[(.slice none 0 0), v65_55])) w56) (
    R (.returned (.tuple #[(vs12.getD 0 undef), (.nilIface)])) w14)))
theorem C_gram_Get {a0 : Value} {a1 : Value} {w : World} {R : Ending → World → Prop} (h : S_gram_Get a0 a1 w R) : Calls Try.prog 16 #[a0, a1] w R :=
  funcVC_sound (an := A_gram_Get) (args := [a0, a1]) (k := 2) Try.func16 (by kernel_rfl) rfl
    (Eq.mp (show S_gram_Get a0 a1 w R = funcVC Try.prog Try.f16 A_gram_Get [a0, a1] w R by kernel_rfl) h)

/-- stave/reply.fields -/
def A_reply_fields : Ann := .nil
def S_reply_fields (w : World) (R : Ending → World → Prop) : Prop :=
  xP Try.prog (sBuild 66 #[(0, (.int .i64 1)), (1, (.int .i64 4)), (3, (.int .i64 4294967295))]) fun v1_1 =>
  xP Try.prog (sBuild 66 #[(0, (.int .i64 1)), (1, (.int .i64 1)), (3, (.int .i64 255))]) fun v2_2 =>
  xP Try.prog (sBuild 66 #[(0, (.int .i64 1)), (1, (.int .i64 8)), (3, (.int .i64 9223372036854775807))]) fun v3_3 =>
  xP Try.prog (sBuild 66 #[(0, (.int .i64 1)), (1, (.int .i64 8)), (3, (.int .i64 9223372036854775807))]) fun v4_4 =>
  xP Try.prog (sBuild 66 #[(0, (.int .i64 3)), (3, (.int .i64 8)), (4, (.int .i64 24))]) fun v5_5 =>
  xP Try.prog (sBuild 66 #[(0, (.int .i64 3)), (3, (.int .i64 4)), (4, (.int .i64 608))]) fun v6_6 =>
  xE Try.prog (sBuildSlice 50 6 #[(0, v1_1), (1, v2_2), (2, v3_3), (3, v4_4), (4, v5_5), (5, v6_6)]) w fun v7_7 w8 =>
  R (.returned v7_7) w8
theorem C_reply_fields {w : World} {R : Ending → World → Prop} (h : S_reply_fields  w R) : Calls Try.prog 17 #[] w R :=
  funcVC_sound (an := A_reply_fields) (args := []) (k := 0) Try.func17 (by kernel_rfl) rfl
    (Eq.mp (show S_reply_fields  w R = funcVC Try.prog Try.f17 A_reply_fields [] w R by kernel_rfl) h)

/-- stave/fault.Wrap -/
def A_fault_Wrap : Ann := .nil
def S_fault_Wrap (a0 : Value) (a1 : Value) (a2 : Value) (w : World) (R : Ending → World → Prop) : Prop :=
  xR Try.prog (sEq .eql 38 true a2 (.nilIface)) w fun v8_1 =>
  xIf v8_1 (
    R (.returned (.nilIface)) w) (
    xP Try.prog (sBuild 69 #[(0, a0), (1, a1), (2, a2)]) fun v12_2 =>
  xP Try.prog (sIface 69 v12_2) fun v13_3 =>
  R (.returned v13_3) w)
theorem C_fault_Wrap {a0 : Value} {a1 : Value} {a2 : Value} {w : World} {R : Ending → World → Prop} (h : S_fault_Wrap a0 a1 a2 w R) : Calls Try.prog 18 #[a0, a1, a2] w R :=
  funcVC_sound (an := A_fault_Wrap) (args := [a0, a1, a2]) (k := 3) Try.func18 (by kernel_rfl) rfl
    (Eq.mp (show S_fault_Wrap a0 a1 a2 w R = funcVC Try.prog Try.f18 A_fault_Wrap [a0, a1, a2] w R by kernel_rfl) h)

/-- stave/reply.batch -/
def A_reply_batch : Ann := (.seq .nil (.seq .nil (.seq (.seq .nil (.one (.loop [8] (.seq .nil (.seq .nil (.seq (.one (.seq .nil (.draw (.pre [0, 1, 2, 3, 4, 5, 6, 7, 8, 9, 10, 11, 12] .nil) [0, 1, 0, 0, 12, 28, 0, 64, 192, 508, 1023, 2047, 4095]))) .nil)))))) .nil)))
def S_reply_batch (a0 : Value) (w : World) (R : Ending → World → Prop) : Prop :=
  xE Try.prog (sAlloc 33) w fun v2_1 w2 =>
  xP Try.prog (sSlice 9 a0 (some (.int .i64 8)) none none) fun v6_3 =>
  xP Try.prog (sBuild 33 #[(1, v6_3)]) fun v7_4 =>
  xE Try.prog (sAlloc 33) w2 fun v3_5 w6 =>
  xE Try.prog (sStore 33 v3_5 v7_4) w6 fun _ w7 =>
  xLoop [(.int .i64 0)] w7 fun J8 vs9 _ w11 =>
    xP Try.prog (sBin .lss 3 (vs9.getD 0 undef) (.int .i64 8)) fun v9_12 =>
    xIf v9_12 (
      xP Try.prog (sFA 33 v3_5 0) fun v11_13 =>
    xR Try.prog (sLoad 3 v11_13) (w11.drew) fun v12_14 =>
    xP Try.prog (sIndex 9 a0 (vs9.getD 0 undef)) fun v15_15 =>
    xP Try.prog (sConv 5 3 v15_15) fun v16_16 =>
    xP Try.prog (sBin .mul 3 (.int .i64 8) (vs9.getD 0 undef)) fun v18_17 =>
    xP Try.prog (sConv 3 70 v18_17) fun v19_18 =>
    xP Try.prog (sBin .shl 3 v16_16 v19_18) fun v20_19 =>
    xP Try.prog (sBin .or 3 v12_14 v20_19) fun v21_20 =>
    xP Try.prog (sFA 33 v3_5 0) fun v22_21 =>
    xE Try.prog (sStore 3 v22_21 v21_20) (w11.drew) fun _ w22 =>
    xP Try.prog (sBin .add 3 (vs9.getD 0 undef) (.int .i64 1)) fun v23_23 =>
    J8 [v23_23] w22) (
      xR Try.prog (sLoad 33 v3_5) w11 fun v24_24 =>
  xE Try.prog (sStore 33 v2_1 v24_24) w11 fun _ w25 =>
  xR Try.prog (sLoad 33 v2_1) w25 fun r26 => R (.returned r26) w25)
theorem C_reply_batch {a0 : Value} {w : World} {R : Ending → World → Prop} (h : S_reply_batch a0 w R) : Calls Try.prog 19 #[a0] w R :=
  funcVC_sound (an := A_reply_batch) (args := [a0]) (k := 1) Try.func19 (by kernel_rfl) rfl
    (Eq.mp (show S_reply_batch a0 w R = funcVC Try.prog Try.f19 A_reply_batch [a0] w R by kernel_rfl) h)

/-- stave/stavebook.Same[string] -/
def A_stavebook_Same_string : Ann := (.seq .nil (.seq .nil (.seq (.seq .nil (.one (.loop [5] (.seq .nil (.seq (.one (.seq (.draw (.pre [0, 1, 2, 3, 4, 5, 6, 7, 8] .nil) [0, 0, 3, 7, 0, 0, 48, 112, 255]) .nil)) .nil))))) .nil)))
def S_stavebook_Same_string (a0 : Value) (a1 : Value) (w : World) (R : Ending → World → Prop) : Prop :=
  xP Try.prog (sB .len #[25] #[a0]) fun v7_1 =>
  xP Try.prog (sB .len #[25] #[a1]) fun v9_2 =>
  xR Try.prog (sEq .neq 3 false v7_1 v9_2) w fun v10_3 =>
  xIf v10_3 (
    R (.returned (.bool false)) w) (
    xLoop [(.int .i64 0)] w fun J4 vs5 _ w7 =>
    xP Try.prog (sB .len #[25] #[a0]) fun v13_8 =>
    xP Try.prog (sBin .lss 3 (vs5.getD 0 undef) v13_8) fun v14_9 =>
    xIf v14_9 (
      xP Try.prog (sIA 25 a0 (vs5.getD 0 undef)) fun v19_10 =>
    xR Try.prog (sLoad 9 v19_10) (w7.drew) fun v20_11 =>
    xP Try.prog (sIA 25 a1 (vs5.getD 0 undef)) fun v23_12 =>
    xR Try.prog (sLoad 9 v23_12) (w7.drew) fun v24_13 =>
    xR Try.prog (sEq .neq 9 false v20_11 v24_13) (w7.drew) fun v25_14 =>
    xIf v25_14 (
      R (.returned (.bool false)) (w7.drew)) (
      xP Try.prog (sBin .add 3 (vs5.getD 0 undef) (.int .i64 1)) fun v16_15 =>
    J4 [v16_15] (w7.drew))) (
      R (.returned (.bool true)) w7))
theorem C_stavebook_Same_string {a0 : Value} {a1 : Value} {w : World} {R : Ending → World → Prop} (h : S_stavebook_Same_string a0 a1 w R) : Calls Try.prog 20 #[a0, a1] w R :=
  funcVC_sound (an := A_stavebook_Same_string) (args := [a0, a1]) (k := 2) Try.func20 (by kernel_rfl) rfl
    (Eq.mp (show S_stavebook_Same_string a0 a1 w R = funcVC Try.prog Try.f20 A_stavebook_Same_string [a0, a1] w R by kernel_rfl) h)

/-- stave/stavebook.Same[stave/api.Fetched] -/
def A_stavebook_Same_api_Fetched : Ann := (.seq .nil (.seq .nil (.seq (.seq .nil (.one (.loop [5] (.seq .nil (.seq (.one (.seq (.draw (.pre [0, 1, 2, 3, 4, 5, 6, 7, 8] .nil) [0, 0, 3, 7, 0, 0, 48, 112, 255]) .nil)) .nil))))) .nil)))
def S_stavebook_Same_api_Fetched (a0 : Value) (a1 : Value) (w : World) (R : Ending → World → Prop) : Prop :=
  xP Try.prog (sB .len #[26] #[a0]) fun v7_1 =>
  xP Try.prog (sB .len #[26] #[a1]) fun v9_2 =>
  xR Try.prog (sEq .neq 3 false v7_1 v9_2) w fun v10_3 =>
  xIf v10_3 (
    R (.returned (.bool false)) w) (
    xLoop [(.int .i64 0)] w fun J4 vs5 _ w7 =>
    xP Try.prog (sB .len #[26] #[a0]) fun v13_8 =>
    xP Try.prog (sBin .lss 3 (vs5.getD 0 undef) v13_8) fun v14_9 =>
    xIf v14_9 (
      xP Try.prog (sIA 26 a0 (vs5.getD 0 undef)) fun v19_10 =>
    xR Try.prog (sLoad 33 v19_10) (w7.drew) fun v20_11 =>
    xP Try.prog (sIA 26 a1 (vs5.getD 0 undef)) fun v23_12 =>
    xR Try.prog (sLoad 33 v23_12) (w7.drew) fun v24_13 =>
    xR Try.prog (sEq .neq 33 false v20_11 v24_13) (w7.drew) fun v25_14 =>
    xIf v25_14 (
      R (.returned (.bool false)) (w7.drew)) (
      xP Try.prog (sBin .add 3 (vs5.getD 0 undef) (.int .i64 1)) fun v16_15 =>
    J4 [v16_15] (w7.drew))) (
      R (.returned (.bool true)) w7))
theorem C_stavebook_Same_api_Fetched {a0 : Value} {a1 : Value} {w : World} {R : Ending → World → Prop} (h : S_stavebook_Same_api_Fetched a0 a1 w R) : Calls Try.prog 21 #[a0, a1] w R :=
  funcVC_sound (an := A_stavebook_Same_api_Fetched) (args := [a0, a1]) (k := 2) Try.func21 (by kernel_rfl) rfl
    (Eq.mp (show S_stavebook_Same_api_Fetched a0 a1 w R = funcVC Try.prog Try.f21 A_stavebook_Same_api_Fetched [a0, a1] w R by kernel_rfl) h)

/-- stave/reply.text -/
def A_reply_text : Ann := (.seq .nil (.seq .nil (.seq (.seq .nil (.one (.loop [8] .nil))) .nil)))
def S_reply_text (a0 : Value) (w : World) (R : Ending → World → Prop) : Prop :=
  xE Try.prog (sBox 33 a0) w fun v1_1 w2 =>
  xE Try.prog (sMakeSlice 22 (.int .i64 8) (.int .i64 8)) w2 fun v5_3 w4 =>
  xP Try.prog (sB .len #[22] #[v5_3]) fun v7_5 =>
  xLoop [(.int .i64 0)] w4 fun J6 vs7 _ w9 =>
    xP Try.prog (sBin .lss 3 (vs7.getD 0 undef) v7_5) fun v9_10 =>
    xIf v9_10 (
      xP Try.prog (sFA 33 v1_1 0) fun v13_11 =>
    xR Try.prog (sLoad 3 v13_11) w9 fun v14_12 =>
    xP Try.prog (sBin .mul 3 (.int .i64 8) (vs7.getD 0 undef)) fun v16_13 =>
    xP Try.prog (sConv 3 70 v16_13) fun v17_14 =>
    xP Try.prog (sBin .shr 3 v14_12 v17_14) fun v18_15 =>
    xP Try.prog (sConv 3 5 v18_15) fun v19_16 =>
    xP Try.prog (sIA 22 v5_3 (vs7.getD 0 undef)) fun v20_17 =>
    xE Try.prog (sStore 5 v20_17 v19_16) w9 fun _ w18 =>
    xP Try.prog (sBin .add 3 (vs7.getD 0 undef) (.int .i64 1)) fun v21_19 =>
    J6 [v21_19] w18) (
      xE Try.prog (sConv 22 9 v5_3) w9 fun v23_20 w21 =>
  xP Try.prog (sFA 33 v1_1 1) fun v24_22 =>
  xR Try.prog (sLoad 9 v24_22) w21 fun v25_23 =>
  xP Try.prog (sBin .add 9 v23_20 v25_23) fun v26_24 =>
  R (.returned v26_24) w21)
theorem C_reply_text {a0 : Value} {w : World} {R : Ending → World → Prop} (h : S_reply_text a0 w R) : Calls Try.prog 22 #[a0] w R :=
  funcVC_sound (an := A_reply_text) (args := [a0]) (k := 1) Try.func22 (by kernel_rfl) rfl
    (Eq.mp (show S_reply_text a0 w R = funcVC Try.prog Try.f22 A_reply_text [a0] w R by kernel_rfl) h)

/-- stave/gram.Put -/
def A_gram_Put : Ann := (.seq .nil (.seq .nil (.seq .nil (.seq .nil (.seq (.seq .nil (.one (.loop [7, 28] (.seq .nil (.seq .nil (.seq (.one (.seq .nil (.seq (.seq (.draw (.pre [0, 1, 2, 3, 4, 5, 6] .nil) [0, 0, 0, 6, 14, 31, 63]) .nil) (.draw (.pre [0, 1, 2, 3, 4, 5, 6, 7, 8] .nil) [0, 0, 0, 0, 12, 28, 62, 127, 255])))) .nil)))))) .nil)))))
def S_gram_Put (a0 : Value) (a1 : Value) (w : World) (R : Ending → World → Prop) : Prop :=
  xE Try.prog (sCall 25 #[a0]) w fun v11_1 w2 =>
  xP Try.prog (sBin .geq 3 v11_1 (.int .i64 0)) fun v13_3 =>
  xIf v13_3 (
    xP Try.prog (sIface 24 (.int .i64 1)) fun v15_4 =>
    xE Try.prog (sCall 18 #[(.string (ByteArray.mk #[103, 114, 97, 109, 46, 80, 117, 116])), v11_1, v15_4]) w2 fun v16_5 w6 =>
    R (.returned (.tuple #[(.slice none 0 0), v16_5])) w6) (
    xP Try.prog (sB .len #[47] #[a1]) fun v18_7 =>
  xP Try.prog (sB .len #[50] #[a0]) fun v20_8 =>
  xR Try.prog (sEq .neq 3 false v18_7 v20_8) w2 fun v21_9 =>
  xIf v21_9 (
    xP Try.prog (sB .len #[47] #[a1]) fun v23_10 =>
    xP Try.prog (sIface 24 (.int .i64 1)) fun v24_11 =>
    xE Try.prog (sCall 18 #[(.string (ByteArray.mk #[103, 114, 97, 109, 46, 80, 117, 116])), v23_10, v24_11]) w2 fun v25_12 w13 =>
    R (.returned (.tuple #[(.slice none 0 0), v25_12])) w13) (
    xP Try.prog (sB .len #[50] #[a0]) fun v27_14 =>
  xLoop [(.slice none 0 0), (.int .i64 0)] w2 fun J15 vs16 _ w18 =>
    xP Try.prog (sBin .lss 3 (vs16.getD 1 undef) v27_14) fun v29_19 =>
    xIf v29_19 (
      xP Try.prog (sIA 50 a0 (vs16.getD 1 undef)) fun v31_20 =>
    xR Try.prog (sLoad 66 v31_20) w18 fun v32_21 =>
    xE Try.prog (sAlloc 66) w18 fun v9_22 w23 =>
    xE Try.prog (sStore 66 v9_22 v32_21) w23 fun _ w24 =>
    xR Try.prog (sLoad 66 v9_22) (w24.drew) fun v33_25 =>
    xP Try.prog (sIA 47 a1 (vs16.getD 1 undef)) fun v36_26 =>
    xR Try.prog (sLoad 54 v36_26) (w24.drew) fun v37_27 =>
    xE Try.prog (sCall 27 #[v33_25, v37_27]) (w24.drew) fun v38_28 w29 =>
    xP Try.prog (sUn .not v38_28) fun v39_30 =>
    xIf v39_30 (
      xP Try.prog (sIface 24 (.int .i64 2)) fun v41_31 =>
      xE Try.prog (sCall 18 #[(.string (ByteArray.mk #[103, 114, 97, 109, 46, 80, 117, 116])), (vs16.getD 1 undef), v41_31]) w29 fun v42_32 w33 =>
      R (.returned (.tuple #[(.slice none 0 0), v42_32])) w33) (
      xR Try.prog (sLoad 66 v9_22) (w29.drew) fun v44_34 =>
    xP Try.prog (sIA 47 a1 (vs16.getD 1 undef)) fun v47_35 =>
    xR Try.prog (sLoad 54 v47_35) (w29.drew) fun v48_36 =>
    xE Try.prog (sCall 28 #[v44_34, v48_36]) (w29.drew) fun v49_37 w38 =>
    xE Try.prog (sB .append #[22, 22] #[(vs16.getD 0 undef), v49_37]) w38 fun v50_39 w40 =>
    xP Try.prog (sBin .add 3 (vs16.getD 1 undef) (.int .i64 1)) fun v51_41 =>
    J15 [v50_39, v51_41] w40)) (
      R (.returned (.tuple #[(vs16.getD 0 undef), (.nilIface)])) w18)))
theorem C_gram_Put {a0 : Value} {a1 : Value} {w : World} {R : Ending → World → Prop} (h : S_gram_Put a0 a1 w R) : Calls Try.prog 23 #[a0, a1] w R :=
  funcVC_sound (an := A_gram_Put) (args := [a0, a1]) (k := 2) Try.func23 (by kernel_rfl) rfl
    (Eq.mp (show S_gram_Put a0 a1 w R = funcVC Try.prog Try.f23 A_gram_Put [a0, a1] w R by kernel_rfl) h)

/-- slices.IndexFunc[[]stave/api.Fetched,stave/api.Fetched] -/
def A_slices_IndexFunc_api_Fetched : Ann := (.seq .nil (.seq (.seq .nil (.one (.loop [8] .nil))) .nil))
def S_slices_IndexFunc_api_Fetched (a0 : Value) (a1 : Value) (w : World) (R : Ending → World → Prop) : Prop :=
  xP Try.prog (sB .len #[26] #[a0]) fun v7_1 =>
  xLoop [(.int .i64 0)] w fun J2 vs3 _ w5 =>
    xP Try.prog (sBin .lss 3 (vs3.getD 0 undef) v7_1) fun v9_6 =>
    xIf v9_6 (
      xP Try.prog (sIA 26 a0 (vs3.getD 0 undef)) fun v14_7 =>
    xR Try.prog (sLoad 33 v14_7) w5 fun v15_8 =>
    xE Try.prog (sCallV a1 #[v15_8]) w5 fun v16_9 w10 =>
    xIf v16_9 (
      R (.returned (vs3.getD 0 undef)) w10) (
      xP Try.prog (sBin .add 3 (vs3.getD 0 undef) (.int .i64 1)) fun v18_11 =>
    J2 [v18_11] w10)) (
      R (.returned (.int .i64 (-1))) w5)
theorem C_slices_IndexFunc_api_Fetched {a0 : Value} {a1 : Value} {w : World} {R : Ending → World → Prop} (h : S_slices_IndexFunc_api_Fetched a0 a1 w R) : Calls Try.prog 24 #[a0, a1] w R :=
  funcVC_sound (an := A_slices_IndexFunc_api_Fetched) (args := [a0, a1]) (k := 2) Try.func24 (by kernel_rfl) rfl
    (Eq.mp (show S_slices_IndexFunc_api_Fetched a0 a1 w R = funcVC Try.prog Try.f24 A_slices_IndexFunc_api_Fetched [a0, a1] w R by kernel_rfl) h)

/-- stave/gram.wrong -/
def A_gram_wrong : Ann := .nil
def S_gram_wrong (a0 : Value) (w : World) (R : Ending → World → Prop) : Prop :=
  xE Try.prog (sCall 29 #[a0, (.func (.func 30) #[] #[])]) w fun v4_1 w2 =>
  R (.returned v4_1) w2
theorem C_gram_wrong {a0 : Value} {w : World} {R : Ending → World → Prop} (h : S_gram_wrong a0 w R) : Calls Try.prog 25 #[a0] w R :=
  funcVC_sound (an := A_gram_wrong) (args := [a0]) (k := 1) Try.func25 (by kernel_rfl) rfl
    (Eq.mp (show S_gram_wrong a0 w R = funcVC Try.prog Try.f25 A_gram_wrong [a0] w R by kernel_rfl) h)

/-- (*stave/gram.cursor).value -/
def A_gram_cursor_value : Ann := (.seq .nil (.seq .nil (.join [] (.seq .nil (.one (.seq .nil (.seq .nil (.seq .nil (.seq .nil (.seq .nil (.seq (.seq .nil (.one (.loop [36] (.seq .nil (.seq .nil (.seq (.one (.draw (.pre [0, 1, 2, 3, 4, 5, 6, 7, 8, 9] .nil) [0, 1, 0, 0, 8, 28, 60, 127, 255, 511])) .nil)))))) .nil)))))))) .nil)))
def S_gram_cursor_value (a0 : Value) (a1 : Value) (w : World) (R : Ending → World → Prop) : Prop :=
  xE Try.prog (sBox 66 a1) w fun v3_1 w2 =>
  xE Try.prog (sAlloc 54) w2 fun v4_3 w4 =>
  xE Try.prog (sAlloc 54) w4 fun v5_5 w6 =>
  xJoin (fun J7 =>
    xP Try.prog (sFA 66 v3_1 0) fun v6_8 =>
    xR Try.prog (sLoad 3 v6_8) w6 fun v7_9 =>
    xR Try.prog (sEq .eql 3 true v7_9 (.int .i64 1)) w6 fun v9_10 =>
    xIf v9_10 (
      xP Try.prog (sFA 66 v3_1 1) fun v11_11 =>
      xR Try.prog (sLoad 3 v11_11) w6 fun v12_12 =>
      xP Try.prog (sFA 66 v3_1 2) fun v13_13 =>
      xR Try.prog (sLoad 3 v13_13) w6 fun v14_14 =>
      xP Try.prog (sFA 66 v3_1 3) fun v15_15 =>
      xR Try.prog (sLoad 3 v15_15) w6 fun v16_16 =>
      xE Try.prog (sCall 32 #[a0, v12_12, v14_14, v16_16]) w6 fun v17_17 w18 =>
      xP Try.prog (sFA 54 v5_5 0) fun v18_19 =>
      xE Try.prog (sStore 3 v18_19 v17_17) w18 fun _ w20 =>
      J7 [] w20) (
      xR Try.prog (sEq .eql 3 true v7_9 (.int .i64 2)) w6 fun v20_21 =>
      xIf v20_21 (
        xP Try.prog (sFA 66 v3_1 2) fun v22_22 =>
        xR Try.prog (sLoad 3 v22_22) w6 fun v23_23 =>
        xP Try.prog (sFA 66 v3_1 3) fun v24_24 =>
        xR Try.prog (sLoad 3 v24_24) w6 fun v25_25 =>
        xE Try.prog (sCall 33 #[a0, v23_23, v25_25]) w6 fun v26_26 w27 =>
        xP Try.prog (sFA 54 v5_5 1) fun v27_28 =>
        xE Try.prog (sStore 9 v27_28 v26_26) w27 fun _ w29 =>
        J7 [] w29) (
        xR Try.prog (sEq .eql 3 true v7_9 (.int .i64 3)) w6 fun v29_30 =>
        xIf v29_30 (
          xP Try.prog (sFA 66 v3_1 2) fun v31_31 =>
          xR Try.prog (sLoad 3 v31_31) w6 fun v32_32 =>
          xP Try.prog (sFA 66 v3_1 3) fun v33_33 =>
          xR Try.prog (sLoad 3 v33_33) w6 fun v34_34 =>
          xE Try.prog (sCall 32 #[a0, (.int .i64 1), v32_32, v34_34]) w6 fun v35_35 w36 =>
          xLoop [(.int .i64 0)] w36 fun J37 vs38 _ w40 =>
            xP Try.prog (sBin .lss 3 (vs38.getD 0 undef) v35_35) fun v37_41 =>
            xIf v37_41 (
              xP Try.prog (sFA 54 v5_5 2) fun v38_42 =>
            xR Try.prog (sLoad 25 v38_42) (w40.drew) fun v39_43 =>
            xP Try.prog (sFA 66 v3_1 4) fun v41_44 =>
            xR Try.prog (sLoad 3 v41_44) (w40.drew) fun v42_45 =>
            xE Try.prog (sCall 33 #[a0, (.int .i64 0), v42_45]) (w40.drew) fun v43_46 w47 =>
            xStill Try.prog (sLoad 25 v38_42) v39_43 w47 <|
            xE Try.prog (sBuildSlice 25 1 #[(0, v43_46)]) w47 fun v44_48 w49 =>
            xStill Try.prog (sLoad 25 v38_42) v39_43 w49 <|
            xE Try.prog (sB .append #[25, 25] #[v39_43, v44_48]) w49 fun v45_50 w51 =>
            xP Try.prog (sFA 54 v5_5 2) fun v46_52 =>
            xE Try.prog (sStore 25 v46_52 v45_50) w51 fun _ w53 =>
            xP Try.prog (sBin .add 3 (vs38.getD 0 undef) (.int .i64 1)) fun v47_54 =>
            J37 [v47_54] w53) (
              J7 [] w40)) (
          J7 [] w6)))) fun _ _ w57 =>
  xR Try.prog (sLoad 54 v5_5) w57 fun v48_58 =>
  xE Try.prog (sStore 54 v4_3 v48_58) w57 fun _ w59 =>
  xR Try.prog (sLoad 54 v4_3) w59 fun r60 => R (.returned r60) w59
theorem C_gram_cursor_value {a0 : Value} {a1 : Value} {w : World} {R : Ending → World → Prop} (h : S_gram_cursor_value a0 a1 w R) : Calls Try.prog 26 #[a0, a1] w R :=
  funcVC_sound (an := A_gram_cursor_value) (args := [a0, a1]) (k := 2) Try.func26 (by kernel_rfl) rfl
    (Eq.mp (show S_gram_cursor_value a0 a1 w R = funcVC Try.prog Try.f26 A_gram_cursor_value [a0, a1] w R by kernel_rfl) h)

/-- stave/gram.fits -/
def A_gram_fits : Ann := (.seq .nil (.seq (.draw (.pre [0, 1, 2, 3, 4, 5, 6, 7, 8, 9, 10, 11, 12] .nil) [0, 1, 3, 0, 8, 24, 0, 64, 192, 448, 7, 1087, 4095]) .nil))
def S_gram_fits (a0 : Value) (a1 : Value) (w : World) (R : Ending → World → Prop) : Prop :=
  xE Try.prog (sBox 66 a0) w fun v2_1 w2 =>
  xE Try.prog (sBox 54 a1) w2 fun v3_3 w4 =>
  xP Try.prog (sFA 54 v3_3 0) fun v9_5 =>
  xR Try.prog (sLoad 3 v9_5) (w4.drew) fun v10_6 =>
  xR Try.prog (sEq .neq 3 true v10_6 (.int .i64 0)) (w4.drew) fun v11_7 =>
  xP Try.prog (sFA 54 v3_3 1) fun v12_8 =>
  xR Try.prog (sLoad 9 v12_8) (w4.drew) fun v13_9 =>
  xR Try.prog (sEq .neq 9 true v13_9 (.string (ByteArray.mk #[]))) (w4.drew) fun v14_10 =>
  xP Try.prog (sFA 54 v3_3 2) fun v15_11 =>
  xR Try.prog (sLoad 25 v15_11) (w4.drew) fun v16_12 =>
  xP Try.prog (sB .len #[25] #[v16_12]) fun v17_13 =>
  xP Try.prog (sBin .gtr 3 v17_13 (.int .i64 0)) fun v18_14 =>
  xP Try.prog (sFA 66 v2_1 0) fun v19_15 =>
  xR Try.prog (sLoad 3 v19_15) (w4.drew) fun v20_16 =>
  xR Try.prog (sEq .eql 3 true v20_16 (.int .i64 1)) (w4.drew) fun v22_17 =>
  xIf v22_17 (
    xR Try.prog (sLoad 66 v2_1) (w4.drew) fun v23_18 =>
    xP Try.prog (sFA 54 v3_3 0) fun v24_19 =>
    xR Try.prog (sLoad 3 v24_19) (w4.drew) fun v25_20 =>
    xE Try.prog (sCall 34 #[v23_18, v25_20]) (w4.drew) fun v26_21 w22 =>
    xIf v26_21 (
    xP Try.prog (sUn .not v14_10) fun v29_23 =>
    xIf v29_23 (
    xP Try.prog (sUn .not v18_14) fun v33_24 =>
    R (.returned v33_24) w22) (
    R (.returned (.bool false)) w22)) (
    R (.returned (.bool false)) w22)) (
    xR Try.prog (sEq .eql 3 true v20_16 (.int .i64 2)) (w4.drew) fun v36_25 =>
    xIf v36_25 (
      xR Try.prog (sLoad 66 v2_1) (w4.drew) fun v37_26 =>
      xP Try.prog (sFA 54 v3_3 1) fun v38_27 =>
      xR Try.prog (sLoad 9 v38_27) (w4.drew) fun v39_28 =>
      xP Try.prog (sB .len #[9] #[v39_28]) fun v40_29 =>
      xE Try.prog (sCall 34 #[v37_26, v40_29]) (w4.drew) fun v41_30 w31 =>
      xIf v41_30 (
      xP Try.prog (sUn .not v11_7) fun v44_32 =>
      xIf v44_32 (
      xP Try.prog (sUn .not v18_14) fun v48_33 =>
      R (.returned v48_33) w31) (
      R (.returned (.bool false)) w31)) (
      R (.returned (.bool false)) w31)) (
      xP Try.prog (sFA 54 v3_3 2) fun v50_34 =>
  xR Try.prog (sLoad 25 v50_34) (w4.drew) fun v51_35 =>
  xP Try.prog (sFunc (.func 36) #[] #[v2_1]) fun v52_36 =>
  xE Try.prog (sCall 35 #[v51_35, v52_36]) (w4.drew) fun v53_37 w38 =>
  xR Try.prog (sLoad 66 v2_1) w38 fun v54_39 =>
  xP Try.prog (sFA 54 v3_3 2) fun v55_40 =>
  xR Try.prog (sLoad 25 v55_40) w38 fun v56_41 =>
  xP Try.prog (sB .len #[25] #[v56_41]) fun v57_42 =>
  xE Try.prog (sCall 34 #[v54_39, v57_42]) w38 fun v58_43 w44 =>
  xIf v58_43 (
  xP Try.prog (sUn .not v53_37) fun v61_45 =>
  xIf v61_45 (
  xP Try.prog (sUn .not v11_7) fun v65_46 =>
  xIf v65_46 (
  xP Try.prog (sUn .not v14_10) fun v69_47 =>
  R (.returned v69_47) w44) (
  R (.returned (.bool false)) w44)) (
  R (.returned (.bool false)) w44)) (
  R (.returned (.bool false)) w44)))
theorem C_gram_fits {a0 : Value} {a1 : Value} {w : World} {R : Ending → World → Prop} (h : S_gram_fits a0 a1 w R) : Calls Try.prog 27 #[a0, a1] w R :=
  funcVC_sound (an := A_gram_fits) (args := [a0, a1]) (k := 2) Try.func27 (by kernel_rfl) rfl
    (Eq.mp (show S_gram_fits a0 a1 w R = funcVC Try.prog Try.f27 A_gram_fits [a0, a1] w R by kernel_rfl) h)

/-- stave/gram.written -/
def A_gram_written : Ann := (.seq .nil (.seq (.seq .nil (.one (.seq .nil (.seq .nil (.seq .nil (.seq (.seq (.draw (.pre [0, 1, 2, 4, 5, 3, 6, 7] .nil) [0, 1, 3, 7, 0, 16, 63, 127]) .nil) .nil)))))) (.seq .nil (.seq (.seq .nil (.one (.loop [5, 33] .nil))) .nil))))
def S_gram_written (a0 : Value) (a1 : Value) (w : World) (R : Ending → World → Prop) : Prop :=
  xE Try.prog (sBox 66 a0) w fun v2_1 w2 =>
  xE Try.prog (sBox 54 a1) w2 fun v3_3 w4 =>
  xP Try.prog (sFA 66 v2_1 0) fun v8_5 =>
  xR Try.prog (sLoad 3 v8_5) w4 fun v9_6 =>
  xR Try.prog (sEq .eql 3 true v9_6 (.int .i64 1)) w4 fun v11_7 =>
  xIf v11_7 (
    xP Try.prog (sFA 54 v3_3 0) fun v12_8 =>
    xR Try.prog (sLoad 3 v12_8) w4 fun v13_9 =>
    xP Try.prog (sFA 66 v2_1 1) fun v14_10 =>
    xR Try.prog (sLoad 3 v14_10) w4 fun v15_11 =>
    xE Try.prog (sCall 37 #[v13_9, v15_11]) w4 fun v16_12 w13 =>
    R (.returned v16_12) w13) (
    xR Try.prog (sEq .eql 3 true v9_6 (.int .i64 2)) w4 fun v18_14 =>
    xIf v18_14 (
      xP Try.prog (sFA 54 v3_3 1) fun v19_15 =>
      xR Try.prog (sLoad 9 v19_15) (w4.drew) fun v20_16 =>
      xP Try.prog (sB .len #[9] #[v20_16]) fun v21_17 =>
      xP Try.prog (sFA 54 v3_3 1) fun v23_18 =>
      xR Try.prog (sLoad 9 v23_18) (w4.drew) fun v24_19 =>
      xE Try.prog (sCall 37 #[v21_17, (.int .i64 2)]) (w4.drew) fun v22_20 w21 =>
      xStill Try.prog (sLoad 9 v23_18) v24_19 w21 <|
      xE Try.prog (sB .append #[22, 9] #[v22_20, v24_19]) w21 fun v25_22 w23 =>
      R (.returned v25_22) w23) (
      xP Try.prog (sFA 54 v3_3 2) fun v26_24 =>
  xR Try.prog (sLoad 25 v26_24) w4 fun v27_25 =>
  xP Try.prog (sB .len #[25] #[v27_25]) fun v28_26 =>
  xE Try.prog (sCall 37 #[v28_26, (.int .i64 1)]) w4 fun v29_27 w28 =>
  xP Try.prog (sFA 54 v3_3 2) fun v30_29 =>
  xR Try.prog (sLoad 25 v30_29) w28 fun v31_30 =>
  xP Try.prog (sB .len #[25] #[v31_30]) fun v32_31 =>
  xLoop [v29_27, (.int .i64 0)] w28 fun J32 vs33 _ w35 =>
    xP Try.prog (sBin .lss 3 (vs33.getD 1 undef) v32_31) fun v34_36 =>
    xIf v34_36 (
      xP Try.prog (sIA 25 v31_30 (vs33.getD 1 undef)) fun v35_37 =>
    xR Try.prog (sLoad 9 v35_37) w35 fun v36_38 =>
    xP Try.prog (sB .len #[9] #[v36_38]) fun v39_39 =>
    xE Try.prog (sCall 37 #[v39_39, (.int .i64 2)]) w35 fun v40_40 w41 =>
    xE Try.prog (sB .append #[22, 22] #[(vs33.getD 0 undef), v40_40]) w41 fun v41_42 w43 =>
    xE Try.prog (sB .append #[22, 9] #[v41_42, v36_38]) w43 fun v43_44 w45 =>
    xP Try.prog (sBin .add 3 (vs33.getD 1 undef) (.int .i64 1)) fun v44_46 =>
    J32 [v43_44, v44_46] w45) (
      R (.returned (vs33.getD 0 undef)) w35)))
theorem C_gram_written {a0 : Value} {a1 : Value} {w : World} {R : Ending → World → Prop} (h : S_gram_written a0 a1 w R) : Calls Try.prog 28 #[a0, a1] w R :=
  funcVC_sound (an := A_gram_written) (args := [a0, a1]) (k := 2) Try.func28 (by kernel_rfl) rfl
    (Eq.mp (show S_gram_written a0 a1 w R = funcVC Try.prog Try.f28 A_gram_written [a0, a1] w R by kernel_rfl) h)

/-- slices.IndexFunc[[]stave/api.Field,stave/api.Field] -/
def A_slices_IndexFunc_api_Field : Ann := (.seq .nil (.seq (.seq .nil (.one (.loop [8] .nil))) .nil))
def S_slices_IndexFunc_api_Field (a0 : Value) (a1 : Value) (w : World) (R : Ending → World → Prop) : Prop :=
  xP Try.prog (sB .len #[50] #[a0]) fun v7_1 =>
  xLoop [(.int .i64 0)] w fun J2 vs3 _ w5 =>
    xP Try.prog (sBin .lss 3 (vs3.getD 0 undef) v7_1) fun v9_6 =>
    xIf v9_6 (
      xP Try.prog (sIA 50 a0 (vs3.getD 0 undef)) fun v14_7 =>
    xR Try.prog (sLoad 66 v14_7) w5 fun v15_8 =>
    xE Try.prog (sCallV a1 #[v15_8]) w5 fun v16_9 w10 =>
    xIf v16_9 (
      R (.returned (vs3.getD 0 undef)) w10) (
      xP Try.prog (sBin .add 3 (vs3.getD 0 undef) (.int .i64 1)) fun v18_11 =>
    J2 [v18_11] w10)) (
      R (.returned (.int .i64 (-1))) w5)
theorem C_slices_IndexFunc_api_Field {a0 : Value} {a1 : Value} {w : World} {R : Ending → World → Prop} (h : S_slices_IndexFunc_api_Field a0 a1 w R) : Calls Try.prog 29 #[a0, a1] w R :=
  funcVC_sound (an := A_slices_IndexFunc_api_Field) (args := [a0, a1]) (k := 2) Try.func29 (by kernel_rfl) rfl
    (Eq.mp (show S_slices_IndexFunc_api_Field a0 a1 w R = funcVC Try.prog Try.f29 A_slices_IndexFunc_api_Field [a0, a1] w R by kernel_rfl) h)

/-- stave/gram.wrong$1 -/
def A_gram_wrongx1 : Ann := .nil
def S_gram_wrongx1 (a0 : Value) (w : World) (R : Ending → World → Prop) : Prop :=
  xE Try.prog (sBox 66 a0) w fun v1_1 w2 =>
  xR Try.prog (sLoad 66 v1_1) w2 fun v3_3 =>
  xE Try.prog (sCall 31 #[v3_3]) w2 fun v4_4 w5 =>
  xP Try.prog (sUn .not v4_4) fun v5_6 =>
  R (.returned v5_6) w5
theorem C_gram_wrongx1 {a0 : Value} {w : World} {R : Ending → World → Prop} (h : S_gram_wrongx1 a0 w R) : Calls Try.prog 30 #[a0] w R :=
  funcVC_sound (an := A_gram_wrongx1) (args := [a0]) (k := 1) Try.func30 (by kernel_rfl) rfl
    (Eq.mp (show S_gram_wrongx1 a0 w R = funcVC Try.prog Try.f30 A_gram_wrongx1 [a0] w R by kernel_rfl) h)

/-- stave/gram.Right -/
def A_gram_Right : Ann := (.seq .nil (.seq (.join [13] .nil .nil) (.seq (.seq .nil (.one (.join [] (.one (.seq (.one (.seq .nil (.seq (.join [3] .nil .nil) .nil))) (.seq (.join [59] .nil .nil) .nil))) .nil))) .nil)))
def S_gram_Right (a0 : Value) (w : World) (R : Ending → World → Prop) : Prop :=
  xE Try.prog (sBox 66 a0) w fun v1_1 w2 =>
  xJoin (fun J3 =>
    xP Try.prog (sFA 66 v1_1 2) fun v4_4 =>
    xR Try.prog (sLoad 3 v4_4) w2 fun v5_5 =>
    xP Try.prog (sBin .lss 3 v5_5 (.int .i64 0)) fun v6_6 =>
    xIf v6_6 (
    J3 [(.bool true)] w2) (
    xP Try.prog (sFA 66 v1_1 2) fun v8_7 =>
    xR Try.prog (sLoad 3 v8_7) w2 fun v9_8 =>
    xP Try.prog (sFA 66 v1_1 3) fun v10_9 =>
    xR Try.prog (sLoad 3 v10_9) w2 fun v11_10 =>
    xP Try.prog (sBin .gtr 3 v9_8 v11_10) fun v12_11 =>
    J3 [v12_11] w2)) fun vs12 _ w14 =>
  xIf (vs12.getD 0 undef) (
    R (.returned (.bool false)) w14) (
    xP Try.prog (sFA 66 v1_1 0) fun v14_15 =>
  xR Try.prog (sLoad 3 v14_15) w14 fun v15_16 =>
  xJoin (fun J17 =>
    xR Try.prog (sEq .eql 3 true v15_16 (.int .i64 1)) w14 fun v17_18 =>
    xIf v17_18 (
      xJoin (fun J19 =>
      xE Try.prog (sBuildSlice 81 3 #[(0, (.int .i64 1)), (1, (.int .i64 2)), (2, (.int .i64 4))]) w14 fun v22_20 w21 =>
      xP Try.prog (sFA 66 v1_1 1) fun v23_22 =>
      xR Try.prog (sLoad 3 v23_22) w21 fun v24_23 =>
      xE Try.prog (sCall 38 #[v22_20, v24_23]) w21 fun v25_24 w25 =>
      xIf v25_24 (
      xP Try.prog (sFA 66 v1_1 3) fun v27_26 =>
      xR Try.prog (sLoad 3 v27_26) w25 fun v28_27 =>
      xP Try.prog (sFA 66 v1_1 1) fun v29_28 =>
      xR Try.prog (sLoad 3 v29_28) w25 fun v30_29 =>
      xP Try.prog (sBin .mul 3 (.int .i64 8) v30_29) fun v31_30 =>
      xP Try.prog (sConv 3 70 v31_30) fun v32_31 =>
      xP Try.prog (sBin .shr 3 v28_27 v32_31) fun v33_32 =>
      xR Try.prog (sEq .eql 3 true v33_32 (.int .i64 0)) w25 fun v34_33 =>
      J19 [v34_33] w25) (
      J19 [(.bool false)] w25)) fun vs34 _ w36 =>
    xP Try.prog (sFA 66 v1_1 4) fun v36_37 =>
    xR Try.prog (sLoad 3 v36_37) w36 fun v37_38 =>
    xR Try.prog (sEq .eql 3 true v37_38 (.int .i64 0)) w36 fun v38_39 =>
    xIf v38_39 (
    xIf (vs34.getD 0 undef) (
    R (.returned (.bool true)) w36) (
    xP Try.prog (sFA 66 v1_1 1) fun v42_40 =>
    xR Try.prog (sLoad 3 v42_40) w36 fun v43_41 =>
    xR Try.prog (sEq .eql 3 true v43_41 (.int .i64 8)) w36 fun v44_42 =>
    R (.returned v44_42) w36)) (
    R (.returned (.bool false)) w36)) (
      xR Try.prog (sEq .eql 3 true v15_16 (.int .i64 3)) w14 fun v19_43 =>
    xIf v19_43 (
      xJoin (fun J44 =>
      xP Try.prog (sFA 66 v1_1 3) fun v47_45 =>
      xR Try.prog (sLoad 3 v47_45) w14 fun v48_46 =>
      xP Try.prog (sBin .gtr 3 v48_46 (.int .i64 255)) fun v49_47 =>
      xIf v49_47 (
      J44 [(.bool true)] w14) (
      xP Try.prog (sFA 66 v1_1 4) fun v51_48 =>
      xR Try.prog (sLoad 3 v51_48) w14 fun v52_49 =>
      xP Try.prog (sBin .lss 3 v52_49 (.int .i64 0)) fun v53_50 =>
      xIf v53_50 (
      J44 [(.bool true)] w14) (
      xP Try.prog (sFA 66 v1_1 4) fun v56_51 =>
      xR Try.prog (sLoad 3 v56_51) w14 fun v57_52 =>
      xP Try.prog (sBin .gtr 3 v57_52 (.int .i64 65535)) fun v58_53 =>
      J44 [v58_53] w14))) fun vs54 _ w56 =>
    xIf (vs54.getD 0 undef) (
      R (.returned (.bool false)) w56) (
      xP Try.prog (sFA 66 v1_1 4) fun v60_57 =>
    xE Try.prog (sStore 3 v60_57 (.int .i64 0)) w56 fun _ w58 =>
    J17 [] w58)) (
      xR Try.prog (sEq .eql 3 true v15_16 (.int .i64 2)) w14 fun v21_59 =>
    xIf v21_59 (
      J17 [] w14) (
      R (.returned (.bool false)) w14)))) fun _ _ w62 =>
  xP Try.prog (sFA 66 v1_1 1) fun v61_63 =>
  xR Try.prog (sLoad 3 v61_63) w62 fun v62_64 =>
  xR Try.prog (sEq .eql 3 true v62_64 (.int .i64 0)) w62 fun v63_65 =>
  xIf v63_65 (
  xP Try.prog (sFA 66 v1_1 4) fun v65_66 =>
  xR Try.prog (sLoad 3 v65_66) w62 fun v66_67 =>
  xR Try.prog (sEq .eql 3 true v66_67 (.int .i64 0)) w62 fun v67_68 =>
  xIf v67_68 (
  xP Try.prog (sFA 66 v1_1 3) fun v70_69 =>
  xR Try.prog (sLoad 3 v70_69) w62 fun v71_70 =>
  xP Try.prog (sBin .leq 3 v71_70 (.int .i64 65535)) fun v72_71 =>
  R (.returned v72_71) w62) (
  R (.returned (.bool false)) w62)) (
  R (.returned (.bool false)) w62))
theorem C_gram_Right {a0 : Value} {w : World} {R : Ending → World → Prop} (h : S_gram_Right a0 w R) : Calls Try.prog 31 #[a0] w R :=
  funcVC_sound (an := A_gram_Right) (args := [a0]) (k := 1) Try.func31 (by kernel_rfl) rfl
    (Eq.mp (show S_gram_Right a0 w R = funcVC Try.prog Try.f31 A_gram_Right [a0] w R by kernel_rfl) h)

/-- (*stave/gram.cursor).num -/
def A_gram_cursor_num : Ann := (.seq .nil (.seq .nil (.seq (.seq (.draw (.pre [0, 1, 2, 3, 4, 5, 6, 7, 8, 9, 10, 11] .nil) [0, 1, 3, 7, 15, 0, 32, 96, 224, 511, 0, 2047]) .nil) (.seq .nil (.seq (.seq (.draw (.pre [0, 1, 2, 3, 4, 5, 6, 7, 8, 9, 10, 11, 12, 13, 14, 15, 16] .nil) [0, 1, 3, 7, 0, 16, 48, 112, 0, 256, 768, 1792, 0, 7936, 16383, 32767, 0]) (.one (.loop [9, 48] .nil))) (.seq (.join [71] .nil .nil) .nil))))))
def S_gram_cursor_num (a0 : Value) (a1 : Value) (a2 : Value) (a3 : Value) (w : World) (R : Ending → World → Prop) : Prop :=
  xP Try.prog (sNil a0) fun v13_1 =>
  xP Try.prog (sFA 64 v13_1 2) fun v14_2 =>
  xR Try.prog (sLoad 24 v14_2) w fun v15_3 =>
  xR Try.prog (sEq .neq 24 true v15_3 (.int .i64 0)) w fun v16_4 =>
  xIf v16_4 (
    R (.returned (.int .i64 0)) w) (
    xP Try.prog (sNil a0) fun v18_5 =>
  xP Try.prog (sFA 64 v18_5 0) fun v19_6 =>
  xR Try.prog (sLoad 22 v19_6) (w.drew) fun v20_7 =>
  xP Try.prog (sB .len #[22] #[v20_7]) fun v21_8 =>
  xP Try.prog (sNil a0) fun v23_9 =>
  xP Try.prog (sFA 64 v23_9 1) fun v24_10 =>
  xR Try.prog (sLoad 3 v24_10) (w.drew) fun v25_11 =>
  xP Try.prog (sBin .sub 3 v21_8 v25_11) fun v26_12 =>
  xP Try.prog (sBin .lss 3 v26_12 a1) fun v28_13 =>
  xIf v28_13 (
    xP Try.prog (sNil a0) fun v30_14 =>
    xP Try.prog (sFA 64 v30_14 2) fun v31_15 =>
    xE Try.prog (sStore 24 v31_15 (.int .i64 3)) (w.drew) fun _ w16 =>
    R (.returned (.int .i64 0)) w16) (
    xP Try.prog (sNil a0) fun v33_17 =>
  xP Try.prog (sFA 64 v33_17 0) fun v34_18 =>
  xR Try.prog (sLoad 22 v34_18) (w.drew.drew) fun v35_19 =>
  xP Try.prog (sNil a0) fun v37_20 =>
  xP Try.prog (sFA 64 v37_20 1) fun v38_21 =>
  xR Try.prog (sLoad 3 v38_21) (w.drew.drew) fun v39_22 =>
  xP Try.prog (sNil a0) fun v41_23 =>
  xP Try.prog (sFA 64 v41_23 1) fun v42_24 =>
  xR Try.prog (sLoad 3 v42_24) (w.drew.drew) fun v43_25 =>
  xP Try.prog (sBin .add 3 v43_25 a1) fun v45_26 =>
  xP Try.prog (sSlice 22 v35_19 (some v39_22) (some v45_26) none) fun v46_27 =>
  xP Try.prog (sB .len #[22] #[v46_27]) fun v47_28 =>
  xLoop [(.int .u64 0), (.int .i64 0)] (w.drew.drew) fun J29 vs30 _ w32 =>
    xP Try.prog (sBin .lss 3 (vs30.getD 1 undef) v47_28) fun v49_33 =>
    xIf v49_33 (
      xP Try.prog (sIA 22 v46_27 (vs30.getD 1 undef)) fun v51_34 =>
    xR Try.prog (sLoad 5 v51_34) w32 fun v52_35 =>
    xP Try.prog (sConv 5 82 v52_35) fun v55_36 =>
    xP Try.prog (sBin .mul 3 (.int .i64 8) (vs30.getD 1 undef)) fun v57_37 =>
    xP Try.prog (sConv 3 70 v57_37) fun v58_38 =>
    xP Try.prog (sBin .shl 82 v55_36 v58_38) fun v59_39 =>
    xP Try.prog (sBin .or 82 (vs30.getD 0 undef) v59_39) fun v60_40 =>
    xP Try.prog (sBin .add 3 (vs30.getD 1 undef) (.int .i64 1)) fun v61_41 =>
    J29 [v60_40, v61_41] w32) (
      xJoin (fun J42 =>
    xP Try.prog (sConv 3 82 a2) fun v64_43 =>
    xP Try.prog (sBin .lss 82 (vs30.getD 0 undef) v64_43) fun v65_44 =>
    xIf v65_44 (
    J42 [(.bool true)] w32) (
    xP Try.prog (sConv 3 82 a3) fun v69_45 =>
    xP Try.prog (sBin .gtr 82 (vs30.getD 0 undef) v69_45) fun v70_46 =>
    J42 [v70_46] w32)) fun vs47 _ w49 =>
  xIf (vs47.getD 0 undef) (
    xP Try.prog (sNil a0) fun v73_50 =>
    xP Try.prog (sFA 64 v73_50 2) fun v74_51 =>
    xE Try.prog (sStore 24 v74_51 (.int .i64 2)) w49 fun _ w52 =>
    R (.returned (.int .i64 0)) w52) (
    xP Try.prog (sNil a0) fun v76_53 =>
  xP Try.prog (sFA 64 v76_53 1) fun v77_54 =>
  xR Try.prog (sLoad 3 v77_54) w49 fun v78_55 =>
  xP Try.prog (sBin .add 3 v78_55 a1) fun v80_56 =>
  xP Try.prog (sNil a0) fun v81_57 =>
  xP Try.prog (sFA 64 v81_57 1) fun v82_58 =>
  xE Try.prog (sStore 3 v82_58 v80_56) w49 fun _ w59 =>
  xP Try.prog (sConv 82 3 (vs30.getD 0 undef)) fun v84_60 =>
  R (.returned v84_60) w59))))
theorem C_gram_cursor_num {a0 : Value} {a1 : Value} {a2 : Value} {a3 : Value} {w : World} {R : Ending → World → Prop} (h : S_gram_cursor_num a0 a1 a2 a3 w R) : Calls Try.prog 32 #[a0, a1, a2, a3] w R :=
  funcVC_sound (an := A_gram_cursor_num) (args := [a0, a1, a2, a3]) (k := 4) Try.func32 (by kernel_rfl) rfl
    (Eq.mp (show S_gram_cursor_num a0 a1 a2 a3 w R = funcVC Try.prog Try.f32 A_gram_cursor_num [a0, a1, a2, a3] w R by kernel_rfl) h)

/-- (*stave/gram.cursor).text -/
def A_gram_cursor_text : Ann := (.seq .nil (.seq .nil (.join [] (.join [30] (.draw (.pre [0, 1, 2, 3, 4, 5, 6, 7, 8, 9, 10, 11, 12, 13, 14, 15, 16, 17, 18] .nil) [0, 1, 3, 7, 15, 31, 63, 127, 255, 511, 1023, 63, 2111, 6207, 14399, 32767, 63, 131071, 262143]) .nil) (.seq .nil (.seq .nil (.seq (.draw (.pre [0, 1, 2, 3, 4, 5, 6, 7, 8, 9, 10, 11, 12, 13, 14, 15, 16] .nil) [0, 1, 3, 7, 0, 16, 48, 112, 0, 496, 0, 1024, 3072, 7168, 16383, 32767, 65535]) .nil))))))
def S_gram_cursor_text (a0 : Value) (a1 : Value) (a2 : Value) (w : World) (R : Ending → World → Prop) : Prop :=
  xE Try.prog (sCall 32 #[a0, (.int .i64 2), a1, a2]) w fun v11_1 w2 =>
  xJoin (fun J3 =>
    xJoin (fun J4 =>
      xP Try.prog (sNil a0) fun v13_5 =>
      xP Try.prog (sFA 64 v13_5 2) fun v14_6 =>
      xR Try.prog (sLoad 24 v14_6) (w2.drew) fun v15_7 =>
      xR Try.prog (sEq .eql 24 true v15_7 (.int .i64 0)) (w2.drew) fun v16_8 =>
      xIf v16_8 (
      xP Try.prog (sNil a0) fun v19_9 =>
      xP Try.prog (sFA 64 v19_9 0) fun v20_10 =>
      xR Try.prog (sLoad 22 v20_10) (w2.drew) fun v21_11 =>
      xP Try.prog (sB .len #[22] #[v21_11]) fun v22_12 =>
      xP Try.prog (sNil a0) fun v24_13 =>
      xP Try.prog (sFA 64 v24_13 1) fun v25_14 =>
      xR Try.prog (sLoad 3 v25_14) (w2.drew) fun v26_15 =>
      xP Try.prog (sBin .sub 3 v22_12 v26_15) fun v27_16 =>
      xP Try.prog (sBin .lss 3 v27_16 v11_1) fun v29_17 =>
      J4 [v29_17] (w2.drew)) (
      J4 [(.bool false)] (w2.drew))) fun vs18 _ w20 =>
    xIf (vs18.getD 0 undef) (
      xP Try.prog (sNil a0) fun v32_21 =>
      xP Try.prog (sFA 64 v32_21 2) fun v33_22 =>
      xE Try.prog (sStore 24 v33_22 (.int .i64 3)) w20 fun _ w23 =>
      J3 [] w23) (
      J3 [] w20)) fun _ _ w26 =>
  xP Try.prog (sNil a0) fun v35_27 =>
  xP Try.prog (sFA 64 v35_27 2) fun v36_28 =>
  xR Try.prog (sLoad 24 v36_28) w26 fun v37_29 =>
  xR Try.prog (sEq .neq 24 true v37_29 (.int .i64 0)) w26 fun v38_30 =>
  xIf v38_30 (
    R (.returned (.string (ByteArray.mk #[]))) w26) (
    xP Try.prog (sNil a0) fun v40_31 =>
  xP Try.prog (sFA 64 v40_31 1) fun v41_32 =>
  xR Try.prog (sLoad 3 v41_32) w26 fun v42_33 =>
  xP Try.prog (sBin .add 3 v42_33 v11_1) fun v44_34 =>
  xP Try.prog (sNil a0) fun v45_35 =>
  xP Try.prog (sFA 64 v45_35 1) fun v46_36 =>
  xE Try.prog (sStore 3 v46_36 v44_34) w26 fun _ w37 =>
  xP Try.prog (sNil a0) fun v48_38 =>
  xP Try.prog (sFA 64 v48_38 0) fun v49_39 =>
  xR Try.prog (sLoad 22 v49_39) (w37.drew) fun v50_40 =>
  xP Try.prog (sNil a0) fun v52_41 =>
  xP Try.prog (sFA 64 v52_41 1) fun v53_42 =>
  xR Try.prog (sLoad 3 v53_42) (w37.drew) fun v54_43 =>
  xP Try.prog (sBin .sub 3 v54_43 v11_1) fun v56_44 =>
  xP Try.prog (sNil a0) fun v58_45 =>
  xP Try.prog (sFA 64 v58_45 1) fun v59_46 =>
  xR Try.prog (sLoad 3 v59_46) (w37.drew) fun v60_47 =>
  xP Try.prog (sSlice 22 v50_40 (some v56_44) (some v60_47) none) fun v61_48 =>
  xE Try.prog (sConv 22 9 v61_48) (w37.drew) fun v62_49 w50 =>
  R (.returned v62_49) w50)
theorem C_gram_cursor_text {a0 : Value} {a1 : Value} {a2 : Value} {w : World} {R : Ending → World → Prop} (h : S_gram_cursor_text a0 a1 a2 w R) : Calls Try.prog 33 #[a0, a1, a2] w R :=
  funcVC_sound (an := A_gram_cursor_text) (args := [a0, a1, a2]) (k := 3) Try.func33 (by kernel_rfl) rfl
    (Eq.mp (show S_gram_cursor_text a0 a1 a2 w R = funcVC Try.prog Try.f33 A_gram_cursor_text [a0, a1, a2] w R by kernel_rfl) h)

/-- stave/gram.in -/
def A_gram_in : Ann := .nil
def S_gram_in (a0 : Value) (a1 : Value) (w : World) (R : Ending → World → Prop) : Prop :=
  xE Try.prog (sBox 66 a0) w fun v2_1 w2 =>
  xP Try.prog (sFA 66 v2_1 2) fun v6_3 =>
  xR Try.prog (sLoad 3 v6_3) w2 fun v7_4 =>
  xP Try.prog (sBin .geq 3 a1 v7_4) fun v8_5 =>
  xIf v8_5 (
  xP Try.prog (sFA 66 v2_1 3) fun v11_6 =>
  xR Try.prog (sLoad 3 v11_6) w2 fun v12_7 =>
  xP Try.prog (sBin .leq 3 a1 v12_7) fun v13_8 =>
  R (.returned v13_8) w2) (
  R (.returned (.bool false)) w2)
theorem C_gram_in {a0 : Value} {a1 : Value} {w : World} {R : Ending → World → Prop} (h : S_gram_in a0 a1 w R) : Calls Try.prog 34 #[a0, a1] w R :=
  funcVC_sound (an := A_gram_in) (args := [a0, a1]) (k := 2) Try.func34 (by kernel_rfl) rfl
    (Eq.mp (show S_gram_in a0 a1 w R = funcVC Try.prog Try.f34 A_gram_in [a0, a1] w R by kernel_rfl) h)

/-- slices.ContainsFunc[[]string,string] -/
def A_slices_ContainsFunc_string : Ann := .nil
def S_slices_ContainsFunc_string (a0 : Value) (a1 : Value) (w : World) (R : Ending → World → Prop) : Prop :=
  xE Try.prog (sCall 39 #[a0, a1]) w fun v7_1 w2 =>
  xP Try.prog (sBin .geq 3 v7_1 (.int .i64 0)) fun v8_3 =>
  R (.returned v8_3) w2
theorem C_slices_ContainsFunc_string {a0 : Value} {a1 : Value} {w : World} {R : Ending → World → Prop} (h : S_slices_ContainsFunc_string a0 a1 w R) : Calls Try.prog 35 #[a0, a1] w R :=
  funcVC_sound (an := A_slices_ContainsFunc_string) (args := [a0, a1]) (k := 2) Try.func35 (by kernel_rfl) rfl
    (Eq.mp (show S_slices_ContainsFunc_string a0 a1 w R = funcVC Try.prog Try.f35 A_slices_ContainsFunc_string [a0, a1] w R by kernel_rfl) h)

/-- stave/gram.fits$1 -/
def A_gram_fitsx1 : Ann := .nil
def S_gram_fitsx1 (a0 : Value) (a1 : Value) (w : World) (R : Ending → World → Prop) : Prop :=
  xP Try.prog (sB .len #[9] #[a0]) fun v5_1 =>
  xP Try.prog (sFA 66 a1 4) fun v6_2 =>
  xR Try.prog (sLoad 3 v6_2) w fun v7_3 =>
  xP Try.prog (sBin .gtr 3 v5_1 v7_3) fun v8_4 =>
  R (.returned v8_4) w
theorem C_gram_fitsx1 {a0 : Value} {a1 : Value} {w : World} {R : Ending → World → Prop} (h : S_gram_fitsx1 a0 a1 w R) : Calls Try.prog 36 #[a0, a1] w R :=
  funcVC_sound (an := A_gram_fitsx1) (args := [a0, a1]) (k := 2) Try.func36 (by kernel_rfl) rfl
    (Eq.mp (show S_gram_fitsx1 a0 a1 w R = funcVC Try.prog Try.f36 A_gram_fitsx1 [a0, a1] w R by kernel_rfl) h)

/-- stave/gram.low -/
def A_gram_low : Ann := (.seq .nil (.seq .nil (.seq (.seq .nil (.one (.loop [11] .nil))) .nil)))
def S_gram_low (a0 : Value) (a1 : Value) (w : World) (R : Ending → World → Prop) : Prop :=
  xE Try.prog (sMakeSlice 22 a1 a1) w fun v8_1 w2 =>
  xP Try.prog (sB .len #[22] #[v8_1]) fun v10_3 =>
  xLoop [(.int .i64 0)] w2 fun J4 vs5 _ w7 =>
    xP Try.prog (sBin .lss 3 (vs5.getD 0 undef) v10_3) fun v12_8 =>
    xIf v12_8 (
      xP Try.prog (sBin .mul 3 (.int .i64 8) (vs5.getD 0 undef)) fun v18_9 =>
    xP Try.prog (sConv 3 70 v18_9) fun v19_10 =>
    xP Try.prog (sBin .shr 3 a0 v19_10) fun v20_11 =>
    xP Try.prog (sConv 3 5 v20_11) fun v21_12 =>
    xP Try.prog (sIA 22 v8_1 (vs5.getD 0 undef)) fun v22_13 =>
    xE Try.prog (sStore 5 v22_13 v21_12) w7 fun _ w14 =>
    xP Try.prog (sBin .add 3 (vs5.getD 0 undef) (.int .i64 1)) fun v23_15 =>
    J4 [v23_15] w14) (
      R (.returned v8_1) w7)
theorem C_gram_low {a0 : Value} {a1 : Value} {w : World} {R : Ending → World → Prop} (h : S_gram_low a0 a1 w R) : Calls Try.prog 37 #[a0, a1] w R :=
  funcVC_sound (an := A_gram_low) (args := [a0, a1]) (k := 2) Try.func37 (by kernel_rfl) rfl
    (Eq.mp (show S_gram_low a0 a1 w R = funcVC Try.prog Try.f37 A_gram_low [a0, a1] w R by kernel_rfl) h)

/-- slices.Contains[[]int,int] -/
def A_slices_Contains_int : Ann := .nil
def S_slices_Contains_int (a0 : Value) (a1 : Value) (w : World) (R : Ending → World → Prop) : Prop :=
  xE Try.prog (sCall 40 #[a0, a1]) w fun v7_1 w2 =>
  xP Try.prog (sBin .geq 3 v7_1 (.int .i64 0)) fun v8_3 =>
  R (.returned v8_3) w2
theorem C_slices_Contains_int {a0 : Value} {a1 : Value} {w : World} {R : Ending → World → Prop} (h : S_slices_Contains_int a0 a1 w R) : Calls Try.prog 38 #[a0, a1] w R :=
  funcVC_sound (an := A_slices_Contains_int) (args := [a0, a1]) (k := 2) Try.func38 (by kernel_rfl) rfl
    (Eq.mp (show S_slices_Contains_int a0 a1 w R = funcVC Try.prog Try.f38 A_slices_Contains_int [a0, a1] w R by kernel_rfl) h)

/-- slices.IndexFunc[[]string,string] -/
def A_slices_IndexFunc_string : Ann := (.seq .nil (.seq (.seq .nil (.one (.loop [8] .nil))) .nil))
def S_slices_IndexFunc_string (a0 : Value) (a1 : Value) (w : World) (R : Ending → World → Prop) : Prop :=
  xP Try.prog (sB .len #[25] #[a0]) fun v7_1 =>
  xLoop [(.int .i64 0)] w fun J2 vs3 _ w5 =>
    xP Try.prog (sBin .lss 3 (vs3.getD 0 undef) v7_1) fun v9_6 =>
    xIf v9_6 (
      xP Try.prog (sIA 25 a0 (vs3.getD 0 undef)) fun v14_7 =>
    xR Try.prog (sLoad 9 v14_7) w5 fun v15_8 =>
    xE Try.prog (sCallV a1 #[v15_8]) w5 fun v16_9 w10 =>
    xIf v16_9 (
      R (.returned (vs3.getD 0 undef)) w10) (
      xP Try.prog (sBin .add 3 (vs3.getD 0 undef) (.int .i64 1)) fun v18_11 =>
    J2 [v18_11] w10)) (
      R (.returned (.int .i64 (-1))) w5)
theorem C_slices_IndexFunc_string {a0 : Value} {a1 : Value} {w : World} {R : Ending → World → Prop} (h : S_slices_IndexFunc_string a0 a1 w R) : Calls Try.prog 39 #[a0, a1] w R :=
  funcVC_sound (an := A_slices_IndexFunc_string) (args := [a0, a1]) (k := 2) Try.func39 (by kernel_rfl) rfl
    (Eq.mp (show S_slices_IndexFunc_string a0 a1 w R = funcVC Try.prog Try.f39 A_slices_IndexFunc_string [a0, a1] w R by kernel_rfl) h)

/-- slices.Index[[]int,int] -/
def A_slices_Index_int : Ann := (.seq .nil (.seq (.seq .nil (.one (.loop [8] .nil))) .nil))
def S_slices_Index_int (a0 : Value) (a1 : Value) (w : World) (R : Ending → World → Prop) : Prop :=
  xP Try.prog (sB .len #[81] #[a0]) fun v7_1 =>
  xLoop [(.int .i64 0)] w fun J2 vs3 _ w5 =>
    xP Try.prog (sBin .lss 3 (vs3.getD 0 undef) v7_1) fun v9_6 =>
    xIf v9_6 (
      xP Try.prog (sIA 81 a0 (vs3.getD 0 undef)) fun v14_7 =>
    xR Try.prog (sLoad 3 v14_7) w5 fun v15_8 =>
    xR Try.prog (sEq .eql 3 false a1 v15_8) w5 fun v16_9 =>
    xIf v16_9 (
      R (.returned (vs3.getD 0 undef)) w5) (
      xP Try.prog (sBin .add 3 (vs3.getD 0 undef) (.int .i64 1)) fun v18_10 =>
    J2 [v18_10] w5)) (
      R (.returned (.int .i64 (-1))) w5)
theorem C_slices_Index_int {a0 : Value} {a1 : Value} {w : World} {R : Ending → World → Prop} (h : S_slices_Index_int a0 a1 w R) : Calls Try.prog 40 #[a0, a1] w R :=
  funcVC_sound (an := A_slices_Index_int) (args := [a0, a1]) (k := 2) Try.func40 (by kernel_rfl) rfl
    (Eq.mp (show S_slices_Index_int a0 a1 w R = funcVC Try.prog Try.f40 A_slices_Index_int [a0, a1] w R by kernel_rfl) h)

theorem FA_28_0 {K : Value → Prop} {b o : Nat} : xP Try.prog (sFA 28 (.pointer (some ⟨b, o, none⟩)) 0) K ↔ K (.pointer (some ⟨b, o + 0, none⟩)) := xP_FA (by kernel_rfl)
theorem FA_28_1 {K : Value → Prop} {b o : Nat} : xP Try.prog (sFA 28 (.pointer (some ⟨b, o, none⟩)) 1) K ↔ K (.pointer (some ⟨b, o + 1, none⟩)) := xP_FA (by kernel_rfl)
theorem FA_28_2 {K : Value → Prop} {b o : Nat} : xP Try.prog (sFA 28 (.pointer (some ⟨b, o, none⟩)) 2) K ↔ K (.pointer (some ⟨b, o + 2, none⟩)) := xP_FA (by kernel_rfl)
theorem FA_28_3 {K : Value → Prop} {b o : Nat} : xP Try.prog (sFA 28 (.pointer (some ⟨b, o, none⟩)) 3) K ↔ K (.pointer (some ⟨b, o + 3, none⟩)) := xP_FA (by kernel_rfl)
theorem FA_28_4 {K : Value → Prop} {b o : Nat} : xP Try.prog (sFA 28 (.pointer (some ⟨b, o, none⟩)) 4) K ↔ K (.pointer (some ⟨b, o + 4, none⟩)) := xP_FA (by kernel_rfl)
theorem FA_28_5 {K : Value → Prop} {b o : Nat} : xP Try.prog (sFA 28 (.pointer (some ⟨b, o, none⟩)) 5) K ↔ K (.pointer (some ⟨b, o + 5, none⟩)) := xP_FA (by kernel_rfl)
theorem FA_33_0 {K : Value → Prop} {b o : Nat} : xP Try.prog (sFA 33 (.pointer (some ⟨b, o, none⟩)) 0) K ↔ K (.pointer (some ⟨b, o + 0, none⟩)) := xP_FA (by kernel_rfl)
theorem FA_33_1 {K : Value → Prop} {b o : Nat} : xP Try.prog (sFA 33 (.pointer (some ⟨b, o, none⟩)) 1) K ↔ K (.pointer (some ⟨b, o + 1, none⟩)) := xP_FA (by kernel_rfl)
theorem FA_54_0 {K : Value → Prop} {b o : Nat} : xP Try.prog (sFA 54 (.pointer (some ⟨b, o, none⟩)) 0) K ↔ K (.pointer (some ⟨b, o + 0, none⟩)) := xP_FA (by kernel_rfl)
theorem FA_54_1 {K : Value → Prop} {b o : Nat} : xP Try.prog (sFA 54 (.pointer (some ⟨b, o, none⟩)) 1) K ↔ K (.pointer (some ⟨b, o + 1, none⟩)) := xP_FA (by kernel_rfl)
theorem FA_54_2 {K : Value → Prop} {b o : Nat} : xP Try.prog (sFA 54 (.pointer (some ⟨b, o, none⟩)) 2) K ↔ K (.pointer (some ⟨b, o + 2, none⟩)) := xP_FA (by kernel_rfl)
theorem FA_64_0 {K : Value → Prop} {b o : Nat} : xP Try.prog (sFA 64 (.pointer (some ⟨b, o, none⟩)) 0) K ↔ K (.pointer (some ⟨b, o + 0, none⟩)) := xP_FA (by kernel_rfl)
theorem FA_64_1 {K : Value → Prop} {b o : Nat} : xP Try.prog (sFA 64 (.pointer (some ⟨b, o, none⟩)) 1) K ↔ K (.pointer (some ⟨b, o + 1, none⟩)) := xP_FA (by kernel_rfl)
theorem FA_64_2 {K : Value → Prop} {b o : Nat} : xP Try.prog (sFA 64 (.pointer (some ⟨b, o, none⟩)) 2) K ↔ K (.pointer (some ⟨b, o + 2, none⟩)) := xP_FA (by kernel_rfl)
theorem FA_66_0 {K : Value → Prop} {b o : Nat} : xP Try.prog (sFA 66 (.pointer (some ⟨b, o, none⟩)) 0) K ↔ K (.pointer (some ⟨b, o + 0, none⟩)) := xP_FA (by kernel_rfl)
theorem FA_66_1 {K : Value → Prop} {b o : Nat} : xP Try.prog (sFA 66 (.pointer (some ⟨b, o, none⟩)) 1) K ↔ K (.pointer (some ⟨b, o + 1, none⟩)) := xP_FA (by kernel_rfl)
theorem FA_66_2 {K : Value → Prop} {b o : Nat} : xP Try.prog (sFA 66 (.pointer (some ⟨b, o, none⟩)) 2) K ↔ K (.pointer (some ⟨b, o + 2, none⟩)) := xP_FA (by kernel_rfl)
theorem FA_66_3 {K : Value → Prop} {b o : Nat} : xP Try.prog (sFA 66 (.pointer (some ⟨b, o, none⟩)) 3) K ↔ K (.pointer (some ⟨b, o + 3, none⟩)) := xP_FA (by kernel_rfl)
theorem FA_66_4 {K : Value → Prop} {b o : Nat} : xP Try.prog (sFA 66 (.pointer (some ⟨b, o, none⟩)) 4) K ↔ K (.pointer (some ⟨b, o + 4, none⟩)) := xP_FA (by kernel_rfl)
theorem ONE_3 : oneB Try.prog 3 = true := by kernel_rfl
theorem SZ_3 : sizeB Try.prog 3 1 = true := by kernel_rfl
theorem ONE_5 : oneB Try.prog 5 = true := by kernel_rfl
theorem SZ_5 : sizeB Try.prog 5 1 = true := by kernel_rfl
theorem ONE_9 : oneB Try.prog 9 = true := by kernel_rfl
theorem SZ_9 : sizeB Try.prog 9 1 = true := by kernel_rfl
theorem ONE_22 : oneB Try.prog 22 = true := by kernel_rfl
theorem SZ_22 : sizeB Try.prog 22 1 = true := by kernel_rfl
theorem ONE_24 : oneB Try.prog 24 = true := by kernel_rfl
theorem SZ_24 : sizeB Try.prog 24 1 = true := by kernel_rfl
theorem ONE_25 : oneB Try.prog 25 = true := by kernel_rfl
theorem SZ_25 : sizeB Try.prog 25 1 = true := by kernel_rfl
theorem ONE_26 : oneB Try.prog 26 = true := by kernel_rfl
theorem SZ_26 : sizeB Try.prog 26 1 = true := by kernel_rfl
theorem AGG_28 : aggB Try.prog 28 6 = true := by kernel_rfl
theorem SZ_28 : sizeB Try.prog 28 6 = true := by kernel_rfl
theorem AGG_33 : aggB Try.prog 33 2 = true := by kernel_rfl
theorem SZ_33 : sizeB Try.prog 33 2 = true := by kernel_rfl
theorem AGG_54 : aggB Try.prog 54 3 = true := by kernel_rfl
theorem SZ_54 : sizeB Try.prog 54 3 = true := by kernel_rfl
theorem AGG_64 : aggB Try.prog 64 3 = true := by kernel_rfl
theorem SZ_64 : sizeB Try.prog 64 3 = true := by kernel_rfl
theorem AGG_66 : aggB Try.prog 66 5 = true := by kernel_rfl
theorem SZ_66 : sizeB Try.prog 66 5 = true := by kernel_rfl
theorem Z_3 : zeroB Try.prog 3 (.int .i64 0) := by unfold zeroB; kernel_rfl
theorem Z_5 : zeroB Try.prog 5 (.int .u8 0) := by unfold zeroB; kernel_rfl
theorem Z_9 : zeroB Try.prog 9 (.string ⟨#[]⟩) := by unfold zeroB; kernel_rfl
theorem Z_28 : zeroB Try.prog 28 (.agg #[.int .i64 0, .int .i64 0, .int .i64 0, .int .i64 0, .slice none 0 0, .slice none 0 0]) := by unfold zeroB; kernel_rfl
theorem Z_33 : zeroB Try.prog 33 (.agg #[.int .i64 0, .string ⟨#[]⟩]) := by unfold zeroB; kernel_rfl
theorem Z_54 : zeroB Try.prog 54 (.agg #[.int .i64 0, .string ⟨#[]⟩, .slice none 0 0]) := by unfold zeroB; kernel_rfl
theorem Z_66 : zeroB Try.prog 66 (.agg #[.int .i64 0, .int .i64 0, .int .i64 0, .int .i64 0, .int .i64 0]) := by unfold zeroB; kernel_rfl
theorem SL_22 : sliceB Try.prog 22 5 = true := by kernel_rfl
theorem LEN_22 {K : Value → Prop} {a : Option Addr} {n c : Nat} : xP Try.prog (sB .len #[22] #[.slice a n c]) K ↔ K (.int .i64 n) := xP_len SL_22
theorem EL_22 : ElemB Try.prog 22 5 1 1 (.int .u8 0) := ⟨SL_22, by kernel_rfl, by kernel_rfl, Z_5, rfl, by decide⟩
theorem SL_25 : sliceB Try.prog 25 9 = true := by kernel_rfl
theorem LEN_25 {K : Value → Prop} {a : Option Addr} {n c : Nat} : xP Try.prog (sB .len #[25] #[.slice a n c]) K ↔ K (.int .i64 n) := xP_len SL_25
theorem EL_25 : ElemB Try.prog 25 9 1 16 (.string ⟨#[]⟩) := ⟨SL_25, by kernel_rfl, by kernel_rfl, Z_9, rfl, by decide⟩
theorem SL_26 : sliceB Try.prog 26 33 = true := by kernel_rfl
theorem LEN_26 {K : Value → Prop} {a : Option Addr} {n c : Nat} : xP Try.prog (sB .len #[26] #[.slice a n c]) K ↔ K (.int .i64 n) := xP_len SL_26
theorem EL_26 : ElemB Try.prog 26 33 2 24 (.agg #[.int .i64 0, .string ⟨#[]⟩]) := ⟨SL_26, by kernel_rfl, by kernel_rfl, Z_33, rfl, by decide⟩
theorem SL_47 : sliceB Try.prog 47 54 = true := by kernel_rfl
theorem LEN_47 {K : Value → Prop} {a : Option Addr} {n c : Nat} : xP Try.prog (sB .len #[47] #[.slice a n c]) K ↔ K (.int .i64 n) := xP_len SL_47
theorem EL_47 : ElemB Try.prog 47 54 3 48 (.agg #[.int .i64 0, .string ⟨#[]⟩, .slice none 0 0]) := ⟨SL_47, by kernel_rfl, by kernel_rfl, Z_54, rfl, by decide⟩
theorem SL_50 : sliceB Try.prog 50 66 = true := by kernel_rfl
theorem LEN_50 {K : Value → Prop} {a : Option Addr} {n c : Nat} : xP Try.prog (sB .len #[50] #[.slice a n c]) K ↔ K (.int .i64 n) := xP_len SL_50
theorem EL_50 : ElemB Try.prog 50 66 5 40 (.agg #[.int .i64 0, .int .i64 0, .int .i64 0, .int .i64 0, .int .i64 0]) := ⟨SL_50, by kernel_rfl, by kernel_rfl, Z_66, rfl, by decide⟩
theorem SL_81 : sliceB Try.prog 81 3 = true := by kernel_rfl
theorem LEN_81 {K : Value → Prop} {a : Option Addr} {n c : Nat} : xP Try.prog (sB .len #[81] #[.slice a n c]) K ↔ K (.int .i64 n) := xP_len SL_81
theorem EL_81 : ElemB Try.prog 81 3 1 8 (.int .i64 0) := ⟨SL_81, by kernel_rfl, by kernel_rfl, Z_3, rfl, by decide⟩
theorem INT_2 : intB Try.prog 2 .i64 := by unfold intB; kernel_rfl
theorem INT_3 : intB Try.prog 3 .i64 := by unfold intB; kernel_rfl
theorem INT_5 : intB Try.prog 5 .u8 := by unfold intB; kernel_rfl
theorem INT_12 : intB Try.prog 12 .u64 := by unfold intB; kernel_rfl
theorem INT_21 : intB Try.prog 21 .i32 := by unfold intB; kernel_rfl
theorem INT_70 : intB Try.prog 70 .u64 := by unfold intB; kernel_rfl
theorem INT_82 : intB Try.prog 82 .u64 := by unfold intB; kernel_rfl
theorem INT_92 : intB Try.prog 92 .u32 := by unfold intB; kernel_rfl
theorem CF_3 : calleeB Try.prog 3 = true := by kernel_rfl
theorem CF_6 : calleeB Try.prog 6 = true := by kernel_rfl
theorem CF_7 : calleeB Try.prog 7 = true := by kernel_rfl
theorem CF_8 : calleeB Try.prog 8 = true := by kernel_rfl
theorem CF_9 : calleeB Try.prog 9 = true := by kernel_rfl
theorem CF_10 : calleeB Try.prog 10 = true := by kernel_rfl
theorem CF_11 : calleeB Try.prog 11 = true := by kernel_rfl
theorem CF_12 : calleeB Try.prog 12 = true := by kernel_rfl
theorem CF_13 : calleeB Try.prog 13 = true := by kernel_rfl
theorem CF_14 : calleeB Try.prog 14 = true := by kernel_rfl
theorem CF_16 : calleeB Try.prog 16 = true := by kernel_rfl
theorem CF_17 : calleeB Try.prog 17 = true := by kernel_rfl
theorem CF_18 : calleeB Try.prog 18 = true := by kernel_rfl
theorem CF_19 : calleeB Try.prog 19 = true := by kernel_rfl
theorem CF_20 : calleeB Try.prog 20 = true := by kernel_rfl
theorem CF_21 : calleeB Try.prog 21 = true := by kernel_rfl
theorem CF_22 : calleeB Try.prog 22 = true := by kernel_rfl
theorem CF_23 : calleeB Try.prog 23 = true := by kernel_rfl
theorem CF_24 : calleeB Try.prog 24 = true := by kernel_rfl
theorem CF_25 : calleeB Try.prog 25 = true := by kernel_rfl
theorem CF_26 : calleeB Try.prog 26 = true := by kernel_rfl
theorem CF_27 : calleeB Try.prog 27 = true := by kernel_rfl
theorem CF_28 : calleeB Try.prog 28 = true := by kernel_rfl
theorem CF_29 : calleeB Try.prog 29 = true := by kernel_rfl
theorem CF_31 : calleeB Try.prog 31 = true := by kernel_rfl
theorem CF_32 : calleeB Try.prog 32 = true := by kernel_rfl
theorem CF_33 : calleeB Try.prog 33 = true := by kernel_rfl
theorem CF_34 : calleeB Try.prog 34 = true := by kernel_rfl
theorem CF_35 : calleeB Try.prog 35 = true := by kernel_rfl
theorem CF_36 : calleeB Try.prog 36 = true := by kernel_rfl
theorem CF_37 : calleeB Try.prog 37 = true := by kernel_rfl
theorem CF_38 : calleeB Try.prog 38 = true := by kernel_rfl
theorem CF_39 : calleeB Try.prog 39 = true := by kernel_rfl
theorem CF_40 : calleeB Try.prog 40 = true := by kernel_rfl
end Go.Proofs.Ytbfaglbfpmnnmaa
