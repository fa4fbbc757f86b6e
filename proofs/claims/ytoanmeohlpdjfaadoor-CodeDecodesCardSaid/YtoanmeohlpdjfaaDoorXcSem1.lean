import Derived.Test.YtoanmeohlpdjfaaDoorXEnt
import Derived.Test.YtoanmeohlpdjfaaDoorRows
namespace Go.Proofs.YtoanmeohlpdjfaaDoor
set_option linter.unusedSimpArgs false
set_option linter.unusedVariables false
open Go.X
set_option maxRecDepth 100000

/-- stave/stavelaw4.CodeRuns -/
def A_stavelaw4_CodeRuns : Ann := (.seq .nil (.seq .nil (.seq .nil (.seq (.join [27] .nil .nil) (.seq .nil (.seq (.join [49] .nil .nil) (.seq (.draw (.pre [0, 1, 2, 3, 4, 5, 6, 7, 8, 9, 10, 11, 12, 13, 14, 15] .nil) [0, 0, 2, 6, 14, 0, 32, 96, 224, 510, 1023, 2047, 4095, 4095, 8191, 32767]) (.seq (.draw (.pre [0, 1, 2, 3] (.alt 4 (.pre [5, 6, 7, 8, 9, 10, 11] (.alt 12 (.pre [13, 14, 15, 16, 17, 18, 19, 20, 21, 22, 23, 24, 25, 26, 27, 28, 29] .nil) (.op 13 (.pre [12, 14, 15, 16, 17, 18, 19, 20, 21, 22, 23, 24, 25, 26, 27, 28, 29] .nil)))) (.op 5 (.pre [4, 6, 7, 8, 9, 10, 11] (.alt 12 (.pre [13, 14, 15, 16, 17, 18, 19, 20, 21, 22, 23, 24, 25, 26, 27, 28, 29] .nil) (.op 13 (.pre [12, 14, 15, 16, 17, 18, 19, 20, 21, 22, 23, 24, 25, 26, 27, 28, 29] .nil))))))) [0, 1, 3, 7, 7, 7, 55, 127, 255, 511, 1023, 2047, 1023, 1023, 13311, 32767, 65535, 131071, 262143, 524287, 1048575, 2097151, 4194303, 262143, 8650751, 25427967, 58982399, 134217727, 268435455, 536870911]) .nil))))))))
def S_stavelaw4_CodeRuns (w : World) (R : Ending → World → Prop) : Prop :=
  xE Tryd.prog (sCall 12 #[(.int .i64 2), (.int .i64 3)]) w fun v10_1 w2 =>
  xP Tryd.prog (sExtract v10_1 0) fun v11_3 =>
  xP Tryd.prog (sExtract v10_1 1) fun v12_4 =>
  xE Tryd.prog (sCall 12 #[(.int .i64 3), (.int .i64 2)]) w2 fun v14_5 w6 =>
  xP Tryd.prog (sExtract v14_5 0) fun _ =>
  xP Tryd.prog (sExtract v14_5 1) fun v16_8 =>
  xJoin (fun J9 =>
    xR Tryd.prog (sEq .eql 22 true v11_3 (.pointer none)) w6 fun v18_10 =>
    xIf v18_10 (
    J9 [(.bool true)] w6) (
    xR Tryd.prog (sEq .neq 24 true v12_4 (.nilIface)) w6 fun v21_11 =>
    xIf v21_11 (
    J9 [(.bool true)] w6) (
    xE Tryd.prog (sCall 13 #[v16_8]) w6 fun v25_12 w13 =>
    xR Tryd.prog (sEq .neq 27 true v25_12 (.int .i64 1)) w13 fun v26_14 =>
    J9 [v26_14] w13))) fun vs15 _ w17 =>
  xIf (vs15.getD 0 undef) (
    R (.returned (.bool false)) w17) (
    xE Tryd.prog (sBuildSlice 32 1 #[(0, (.int .u8 1))]) w17 fun v30_18 w19 =>
  xE Tryd.prog (sBuildSlice 32 1 #[(0, (.int .u8 2))]) w19 fun v31_20 w21 =>
  xE Tryd.prog (sBuildSlice 29 2 #[(0, v30_18), (1, v31_20)]) w21 fun v32_22 w23 =>
  xE Tryd.prog (sCall 14 #[v11_3, v32_22]) w23 fun v33_24 w25 =>
  xP Tryd.prog (sExtract v33_24 0) fun v34_26 =>
  xP Tryd.prog (sExtract v33_24 1) fun v35_27 =>
  xJoin (fun J28 =>
    xR Tryd.prog (sEq .neq 24 true v35_27 (.nilIface)) w25 fun v37_29 =>
    xIf v37_29 (
    J28 [(.bool true)] w25) (
    xP Tryd.prog (sB .len #[29] #[v34_26]) fun v40_30 =>
    xR Tryd.prog (sEq .neq 3 true v40_30 (.int .i64 3)) w25 fun v41_31 =>
    xIf v41_31 (
    J28 [(.bool true)] w25) (
    xP Tryd.prog (sIA 29 v34_26 (.int .i64 2)) fun v45_32 =>
    xR Tryd.prog (sLoad 32 v45_32) w25 fun v46_33 =>
    xP Tryd.prog (sB .len #[32] #[v46_33]) fun v47_34 =>
    xR Tryd.prog (sEq .neq 3 true v47_34 (.int .i64 1)) w25 fun v48_35 =>
    J28 [v48_35] w25))) fun vs36 _ w38 =>
  xIf (vs36.getD 0 undef) (
    R (.returned (.bool false)) w38) (
    xP Tryd.prog (sIA 29 v34_26 (.int .i64 1)) fun v53_39 =>
  xR Tryd.prog (sLoad 32 v53_39) (w38.drew) fun v54_40 =>
  xP Tryd.prog (sBuild 35 #[(0, (.int .i64 1)), (1, v54_40)]) fun v55_41 =>
  xP Tryd.prog (sIA 29 v34_26 (.int .i64 2)) fun v57_42 =>
  xR Tryd.prog (sLoad 32 v57_42) (w38.drew) fun v58_43 =>
  xP Tryd.prog (sBuild 35 #[(0, (.int .i64 2)), (1, v58_43)]) fun v59_44 =>
  xE Tryd.prog (sBuildSlice 48 2 #[(0, v55_41), (1, v59_44)]) (w38.drew) fun v60_45 w46 =>
  xE Tryd.prog (sCall 15 #[v11_3, v60_45]) w46 fun v61_47 w48 =>
  xP Tryd.prog (sExtract v61_47 0) fun v62_49 =>
  xP Tryd.prog (sExtract v61_47 1) fun v63_50 =>
  xR Tryd.prog (sEq .eql 24 true v63_50 (.nilIface)) (w48.drew) fun v65_51 =>
  xIf v65_51 (
  (xE Tryd.prog (sBuildSlice 32 1 #[(0, (.int .u8 1))]) (w48.drew) fun v68_52 w53 =>
  xE Tryd.prog (sBuildSlice 32 1 #[(0, (.int .u8 2))]) w53 fun v69_54 w55 =>
  xE Tryd.prog (sBuildSlice 29 2 #[(0, v68_52), (1, v69_54)]) w55 fun v70_56 w57 =>
  xE Tryd.prog (sCall 16 #[v62_49, v70_56]) w57 fun v71_58 w59 =>
  xIf v71_58 (
  xP Tryd.prog (sSlice 29 v34_26 none (some (.int .i64 2)) none) fun v75_60 =>
  (xE Tryd.prog (sBuildSlice 32 1 #[(0, (.int .u8 1))]) w59 fun v76_61 w62 =>
  xE Tryd.prog (sBuildSlice 32 1 #[(0, (.int .u8 2))]) w62 fun v77_63 w64 =>
  xE Tryd.prog (sBuildSlice 29 2 #[(0, v76_61), (1, v77_63)]) w64 fun v78_65 w66 =>
  xE Tryd.prog (sCall 16 #[v75_60, v78_65]) w66 fun v79_67 w68 =>
  xIf v79_67 (
  xP Tryd.prog (sIA 29 v34_26 (.int .i64 2)) fun v83_69 =>
  xR Tryd.prog (sLoad 32 v83_69) w68 fun v84_70 =>
  xP Tryd.prog (sIA 32 v84_70 (.int .i64 0)) fun v85_71 =>
  xR Tryd.prog (sLoad 5 v85_71) w68 fun v86_72 =>
  xE Tryd.prog (sCall 17 #[(.int .u8 2)]) w68 fun v87_73 w74 =>
  xStill Tryd.prog (sLoad 5 v85_71) v86_72 w74 <|
  xStill Tryd.prog (sLoad 32 v83_69) v84_70 w74 <|
  xE Tryd.prog (sCall 17 #[(.int .u8 3)]) w74 fun v88_75 w76 =>
  xStill Tryd.prog (sLoad 5 v85_71) v86_72 w76 <|
  xStill Tryd.prog (sLoad 32 v83_69) v84_70 w76 <|
  xE Tryd.prog (sCall 18 #[v88_75, (.int .u8 2)]) w76 fun v89_77 w78 =>
  xStill Tryd.prog (sLoad 5 v85_71) v86_72 w78 <|
  xStill Tryd.prog (sLoad 32 v83_69) v84_70 w78 <|
  xP Tryd.prog (sBin .xor 5 v87_73 v89_77) fun v90_79 =>
  xR Tryd.prog (sEq .eql 5 false v86_72 v90_79) w78 fun v91_80 =>
  R (.returned v91_80) w78) (
  R (.returned (.bool false)) w68)) ∧
  (xE Tryd.prog (sBuildSlice 32 1 #[(0, (.int .u8 2))]) w59 fun v77_81 w82 =>
  xE Tryd.prog (sBuildSlice 32 1 #[(0, (.int .u8 1))]) w82 fun v76_83 w84 =>
  xE Tryd.prog (sBuildSlice 29 2 #[(0, v76_83), (1, v77_81)]) w84 fun v78_85 w86 =>
  xE Tryd.prog (sCall 16 #[v75_60, v78_85]) w86 fun v79_87 w88 =>
  xIf v79_87 (
  xP Tryd.prog (sIA 29 v34_26 (.int .i64 2)) fun v83_89 =>
  xR Tryd.prog (sLoad 32 v83_89) w88 fun v84_90 =>
  xP Tryd.prog (sIA 32 v84_90 (.int .i64 0)) fun v85_91 =>
  xR Tryd.prog (sLoad 5 v85_91) w88 fun v86_92 =>
  xE Tryd.prog (sCall 17 #[(.int .u8 2)]) w88 fun v87_93 w94 =>
  xStill Tryd.prog (sLoad 5 v85_91) v86_92 w94 <|
  xStill Tryd.prog (sLoad 32 v83_89) v84_90 w94 <|
  xE Tryd.prog (sCall 17 #[(.int .u8 3)]) w94 fun v88_95 w96 =>
  xStill Tryd.prog (sLoad 5 v85_91) v86_92 w96 <|
  xStill Tryd.prog (sLoad 32 v83_89) v84_90 w96 <|
  xE Tryd.prog (sCall 18 #[v88_95, (.int .u8 2)]) w96 fun v89_97 w98 =>
  xStill Tryd.prog (sLoad 5 v85_91) v86_92 w98 <|
  xStill Tryd.prog (sLoad 32 v83_89) v84_90 w98 <|
  xP Tryd.prog (sBin .xor 5 v87_93 v89_97) fun v90_99 =>
  xR Tryd.prog (sEq .eql 5 false v86_92 v90_99) w98 fun v91_100 =>
  R (.returned v91_100) w98) (
  R (.returned (.bool false)) w88))) (
  (R (.returned (.bool false)) w59) ∧
  (R (.returned (.bool false)) w59))) ∧
  (xE Tryd.prog (sBuildSlice 32 1 #[(0, (.int .u8 2))]) (w48.drew) fun v69_101 w102 =>
  xE Tryd.prog (sBuildSlice 32 1 #[(0, (.int .u8 1))]) w102 fun v68_103 w104 =>
  xE Tryd.prog (sBuildSlice 29 2 #[(0, v68_103), (1, v69_101)]) w104 fun v70_105 w106 =>
  xE Tryd.prog (sCall 16 #[v62_49, v70_105]) w106 fun v71_107 w108 =>
  xIf v71_107 (
  xP Tryd.prog (sSlice 29 v34_26 none (some (.int .i64 2)) none) fun v75_109 =>
  (xE Tryd.prog (sBuildSlice 32 1 #[(0, (.int .u8 1))]) w108 fun v76_110 w111 =>
  xE Tryd.prog (sBuildSlice 32 1 #[(0, (.int .u8 2))]) w111 fun v77_112 w113 =>
  xE Tryd.prog (sBuildSlice 29 2 #[(0, v76_110), (1, v77_112)]) w113 fun v78_114 w115 =>
  xE Tryd.prog (sCall 16 #[v75_109, v78_114]) w115 fun v79_116 w117 =>
  xIf v79_116 (
  xP Tryd.prog (sIA 29 v34_26 (.int .i64 2)) fun v83_118 =>
  xR Tryd.prog (sLoad 32 v83_118) w117 fun v84_119 =>
  xP Tryd.prog (sIA 32 v84_119 (.int .i64 0)) fun v85_120 =>
  xR Tryd.prog (sLoad 5 v85_120) w117 fun v86_121 =>
  xE Tryd.prog (sCall 17 #[(.int .u8 2)]) w117 fun v87_122 w123 =>
  xStill Tryd.prog (sLoad 5 v85_120) v86_121 w123 <|
  xStill Tryd.prog (sLoad 32 v83_118) v84_119 w123 <|
  xE Tryd.prog (sCall 17 #[(.int .u8 3)]) w123 fun v88_124 w125 =>
  xStill Tryd.prog (sLoad 5 v85_120) v86_121 w125 <|
  xStill Tryd.prog (sLoad 32 v83_118) v84_119 w125 <|
  xE Tryd.prog (sCall 18 #[v88_124, (.int .u8 2)]) w125 fun v89_126 w127 =>
  xStill Tryd.prog (sLoad 5 v85_120) v86_121 w127 <|
  xStill Tryd.prog (sLoad 32 v83_118) v84_119 w127 <|
  xP Tryd.prog (sBin .xor 5 v87_122 v89_126) fun v90_128 =>
  xR Tryd.prog (sEq .eql 5 false v86_121 v90_128) w127 fun v91_129 =>
  R (.returned v91_129) w127) (
  R (.returned (.bool false)) w117)) ∧
  (xE Tryd.prog (sBuildSlice 32 1 #[(0, (.int .u8 2))]) w108 fun v77_130 w131 =>
  xE Tryd.prog (sBuildSlice 32 1 #[(0, (.int .u8 1))]) w131 fun v76_132 w133 =>
  xE Tryd.prog (sBuildSlice 29 2 #[(0, v76_132), (1, v77_130)]) w133 fun v78_134 w135 =>
  xE Tryd.prog (sCall 16 #[v75_109, v78_134]) w135 fun v79_136 w137 =>
  xIf v79_136 (
  xP Tryd.prog (sIA 29 v34_26 (.int .i64 2)) fun v83_138 =>
  xR Tryd.prog (sLoad 32 v83_138) w137 fun v84_139 =>
  xP Tryd.prog (sIA 32 v84_139 (.int .i64 0)) fun v85_140 =>
  xR Tryd.prog (sLoad 5 v85_140) w137 fun v86_141 =>
  xE Tryd.prog (sCall 17 #[(.int .u8 2)]) w137 fun v87_142 w143 =>
  xStill Tryd.prog (sLoad 5 v85_140) v86_141 w143 <|
  xStill Tryd.prog (sLoad 32 v83_138) v84_139 w143 <|
  xE Tryd.prog (sCall 17 #[(.int .u8 3)]) w143 fun v88_144 w145 =>
  xStill Tryd.prog (sLoad 5 v85_140) v86_141 w145 <|
  xStill Tryd.prog (sLoad 32 v83_138) v84_139 w145 <|
  xE Tryd.prog (sCall 18 #[v88_144, (.int .u8 2)]) w145 fun v89_146 w147 =>
  xStill Tryd.prog (sLoad 5 v85_140) v86_141 w147 <|
  xStill Tryd.prog (sLoad 32 v83_138) v84_139 w147 <|
  xP Tryd.prog (sBin .xor 5 v87_142 v89_146) fun v90_148 =>
  xR Tryd.prog (sEq .eql 5 false v86_141 v90_148) w147 fun v91_149 =>
  R (.returned v91_149) w147) (
  R (.returned (.bool false)) w137))) (
  (R (.returned (.bool false)) w108) ∧
  (R (.returned (.bool false)) w108)))) (
  ((R (.returned (.bool false)) (w48.drew)) ∧
  (R (.returned (.bool false)) (w48.drew))) ∧
  ((R (.returned (.bool false)) (w48.drew)) ∧
  (R (.returned (.bool false)) (w48.drew))))))
theorem C_stavelaw4_CodeRuns {w : World} {R : Ending → World → Prop} (h : S_stavelaw4_CodeRuns  w R) : Calls Tryd.prog 3 #[] w R :=
  funcVC_sound (an := A_stavelaw4_CodeRuns) (args := []) (k := 0) Tryd.func3 (by kernel_rfl) rfl
    (Eq.mp (show S_stavelaw4_CodeRuns  w R = funcVC Tryd.prog Tryd.f3 A_stavelaw4_CodeRuns [] w R by kernel_rfl) h)

/-- stave/stavelaw4.CodeTells -/
def A_stavelaw4_CodeTells : Ann := (.seq .nil (.seq .nil (.seq (.seq .nil (.one (.loop [7, 8] (.seq (.join [22] .nil .nil) (.seq (.one (.draw (.pre [0, 2, 3, 4, 5, 6, 7, 8, 9, 10, 11, 12, 1, 13, 14, 15, 16] .nil) [0, 0, 0, 0, 12, 28, 0, 0, 192, 448, 960, 1984, 4092, 8190, 16382, 32767, 65535])) .nil))))) (.seq .nil (.seq (.join [76] .nil .nil) .nil)))))
def S_stavelaw4_CodeTells (a0 : Value) (a1 : Value) (a2 : Value) (w : World) (R : Ending → World → Prop) : Prop :=
  xLoop [(.slice none 0 0), (.int .i64 0)] w fun J1 vs2 _ w4 =>
    xJoin (fun J5 =>
      xP Tryd.prog (sB .len #[29] #[a2]) fun v17_6 =>
      xP Tryd.prog (sBin .lss 3 (vs2.getD 1 undef) v17_6) fun v18_7 =>
      xIf v18_7 (
      xP Tryd.prog (sBin .lss 3 (vs2.getD 1 undef) (.int .i64 9)) fun v21_8 =>
      J5 [v21_8] w4) (
      J5 [(.bool false)] w4)) fun vs9 _ w11 =>
    xIf (vs9.getD 0 undef) (
      xP Tryd.prog (sIA 29 a2 (vs2.getD 1 undef)) fun v29_12 =>
    xR Tryd.prog (sLoad 32 v29_12) (w11.drew) fun v30_13 =>
    xP Tryd.prog (sIA 29 a2 (vs2.getD 1 undef)) fun v33_14 =>
    xR Tryd.prog (sLoad 32 v33_14) (w11.drew) fun v34_15 =>
    xP Tryd.prog (sB .len #[32] #[v34_15]) fun v35_16 =>
    xP Tryd.prog (sB .min #[3, 3] #[v35_16, (.int .i64 20)]) fun v36_17 =>
    xP Tryd.prog (sSlice 32 v30_13 none (some v36_17) none) fun v37_18 =>
    xE Tryd.prog (sBuildSlice 32 0 #[]) (w11.drew) fun v26_19 w20 =>
    xStill Tryd.prog (sLoad 32 v33_14) v34_15 w20 <|
    xStill Tryd.prog (sLoad 32 v29_12) v30_13 w20 <|
    xE Tryd.prog (sB .append #[32, 32] #[v26_19, v37_18]) w20 fun v38_21 w22 =>
    xE Tryd.prog (sBuildSlice 29 1 #[(0, v38_21)]) w22 fun v39_23 w24 =>
    xE Tryd.prog (sB .append #[29, 29] #[(vs2.getD 0 undef), v39_23]) w24 fun v40_25 w26 =>
    xP Tryd.prog (sBin .add 3 (vs2.getD 1 undef) (.int .i64 1)) fun v24_27 =>
    J1 [v40_25, v24_27] w26) (
      xE Tryd.prog (sCall 12 #[a0, a1]) w11 fun v44_28 w29 =>
  xP Tryd.prog (sExtract v44_28 0) fun v45_30 =>
  xP Tryd.prog (sExtract v44_28 1) fun v46_31 =>
  xJoin (fun J32 =>
    xR Tryd.prog (sEq .neq 22 true v45_30 (.pointer none)) w29 fun v48_33 =>
    xP Tryd.prog (sBin .geq 3 a0 (.int .i64 1)) fun v50_34 =>
    xIf v50_34 (
    xP Tryd.prog (sBin .leq 3 a0 a1) fun v54_35 =>
    xIf v54_35 (
    xP Tryd.prog (sBin .leq 3 a1 (.int .i64 8)) fun v58_36 =>
    xR Tryd.prog (sEq .neq 4 false v48_33 v58_36) w29 fun v60_37 =>
    xIf v60_37 (
    J32 [(.bool true)] w29) (
    xR Tryd.prog (sEq .eql 24 true v46_31 (.nilIface)) w29 fun v63_38 =>
    xR Tryd.prog (sEq .neq 22 true v45_30 (.pointer none)) w29 fun v65_39 =>
    xR Tryd.prog (sEq .neq 4 false v63_38 v65_39) w29 fun v66_40 =>
    xIf v66_40 (
    J32 [(.bool true)] w29) (
    xR Tryd.prog (sEq .neq 24 true v46_31 (.nilIface)) w29 fun v70_41 =>
    xIf v70_41 (
    xE Tryd.prog (sCall 13 #[v46_31]) w29 fun v73_42 w43 =>
    xR Tryd.prog (sEq .neq 27 true v73_42 (.int .i64 1)) w43 fun v74_44 =>
    J32 [v74_44] w43) (
    J32 [(.bool false)] w29)))) (
    xR Tryd.prog (sEq .neq 4 false v48_33 (.bool false)) w29 fun v60_45 =>
    xIf v60_45 (
    J32 [(.bool true)] w29) (
    xR Tryd.prog (sEq .eql 24 true v46_31 (.nilIface)) w29 fun v63_46 =>
    xR Tryd.prog (sEq .neq 22 true v45_30 (.pointer none)) w29 fun v65_47 =>
    xR Tryd.prog (sEq .neq 4 false v63_46 v65_47) w29 fun v66_48 =>
    xIf v66_48 (
    J32 [(.bool true)] w29) (
    xR Tryd.prog (sEq .neq 24 true v46_31 (.nilIface)) w29 fun v70_49 =>
    xIf v70_49 (
    xE Tryd.prog (sCall 13 #[v46_31]) w29 fun v73_50 w51 =>
    xR Tryd.prog (sEq .neq 27 true v73_50 (.int .i64 1)) w51 fun v74_52 =>
    J32 [v74_52] w51) (
    J32 [(.bool false)] w29))))) (
    xR Tryd.prog (sEq .neq 4 false v48_33 (.bool false)) w29 fun v60_53 =>
    xIf v60_53 (
    J32 [(.bool true)] w29) (
    xR Tryd.prog (sEq .eql 24 true v46_31 (.nilIface)) w29 fun v63_54 =>
    xR Tryd.prog (sEq .neq 22 true v45_30 (.pointer none)) w29 fun v65_55 =>
    xR Tryd.prog (sEq .neq 4 false v63_54 v65_55) w29 fun v66_56 =>
    xIf v66_56 (
    J32 [(.bool true)] w29) (
    xR Tryd.prog (sEq .neq 24 true v46_31 (.nilIface)) w29 fun v70_57 =>
    xIf v70_57 (
    xE Tryd.prog (sCall 13 #[v46_31]) w29 fun v73_58 w59 =>
    xR Tryd.prog (sEq .neq 27 true v73_58 (.int .i64 1)) w59 fun v74_60 =>
    J32 [v74_60] w59) (
    J32 [(.bool false)] w29))))) fun vs61 _ w63 =>
  xIf (vs61.getD 0 undef) (
    R (.returned (.bool false)) w63) (
    xR Tryd.prog (sEq .eql 22 true v45_30 (.pointer none)) w63 fun v78_64 =>
  xIf v78_64 (
    xE Tryd.prog (sCall 3 #[]) w63 fun v79_65 w66 =>
    R (.returned v79_65) w66) (
    xE Tryd.prog (sCall 14 #[v45_30, (vs2.getD 0 undef)]) w63 fun v83_67 w68 =>
  xP Tryd.prog (sExtract v83_67 0) fun v84_69 =>
  xP Tryd.prog (sExtract v83_67 1) fun v85_70 =>
  xE Tryd.prog (sCall 19 #[a0, a1, (vs2.getD 0 undef)]) w68 fun v90_71 w72 =>
  xP Tryd.prog (sExtract v90_71 0) fun v91_73 =>
  xP Tryd.prog (sExtract v90_71 1) fun v92_74 =>
  xE Tryd.prog (sCall 16 #[v84_69, v91_73]) w72 fun v95_75 w76 =>
  xIf v95_75 (
  xE Tryd.prog (sCall 13 #[v85_70]) w76 fun v98_77 w78 =>
  xR Tryd.prog (sEq .eql 3 false v98_77 v92_74) w78 fun v100_79 =>
  xIf v100_79 (
  xE Tryd.prog (sCall 3 #[]) w78 fun v103_80 w81 =>
  R (.returned v103_80) w81) (
  R (.returned (.bool false)) w78)) (
  R (.returned (.bool false)) w76))))
theorem C_stavelaw4_CodeTells {a0 : Value} {a1 : Value} {a2 : Value} {w : World} {R : Ending → World → Prop} (h : S_stavelaw4_CodeTells a0 a1 a2 w R) : Calls Tryd.prog 4 #[a0, a1, a2] w R :=
  funcVC_sound (an := A_stavelaw4_CodeTells) (args := [a0, a1, a2]) (k := 3) Tryd.func4 (by kernel_rfl) rfl
    (Eq.mp (show S_stavelaw4_CodeTells a0 a1 a2 w R = funcVC Tryd.prog Tryd.f4 A_stavelaw4_CodeTells [a0, a1, a2] w R by kernel_rfl) h)

/-- stave/stavelaw4.CodeSystem -/
def A_stavelaw4_CodeSystem : Ann := (.seq .nil (.seq .nil (.seq .nil (.seq .nil (.seq (.join [45] .nil .nil) (.seq .nil (.seq .nil (.seq .nil (.seq (.seq .nil (.one (.loop [61] (.seq .nil (.seq .nil (.seq (.one (.seq .nil (.seq .nil (.one (.loop [69] (.seq .nil (.seq .nil (.seq (.one (.seq .nil (.draw (.pre [0, 1, 2, 3, 4, 5, 6, 7, 8, 9, 10, 11, 12, 13, 14, 15, 16, 17, 18, 19, 20, 21] .nil) [0, 0, 3, 7, 0, 0, 0, 96, 224, 0, 992, 2016, 0, 0, 12288, 28672, 0, 126976, 258048, 524256, 1048575, 2097151]))) .nil)))))))) .nil)))))) (.seq .nil (.seq .nil (.seq .nil (.seq (.join [148] .nil .nil) (.seq (.seq .nil (.one (.loop [151] (.seq .nil (.seq .nil (.seq (.one (.seq .nil (.seq .nil (.one (.loop [159] (.seq .nil (.seq .nil (.seq (.one (.seq .nil (.seq (.draw (.pre [0, 1, 2, 3, 4, 5, 6, 7, 8, 9, 10, 11, 12, 13, 14, 15, 16, 17, 18, 19, 20, 21, 22] .nil) [0, 0, 3, 7, 0, 31, 63, 0, 0, 384, 896, 0, 3968, 8064, 0, 0, 49152, 114688, 0, 507904, 1032192, 2097024, 4194303]) .nil))) .nil)))))))) .nil)))))) .nil))))))))))))))
def S_stavelaw4_CodeSystem (a0 : Value) (a1 : Value) (a2 : Value) (a3 : Value) (a4 : Value) (w : World) (R : Ending → World → Prop) : Prop :=
  xE Tryd.prog (sCall 20 #[a0, (.int .i64 1), (.int .i64 8)]) w fun v30_1 w2 =>
  xE Tryd.prog (sCall 20 #[a1, v30_1, (.int .i64 8)]) w2 fun v33_3 w4 =>
  xE Tryd.prog (sCall 12 #[v30_1, v33_3]) w4 fun v37_5 w6 =>
  xP Tryd.prog (sExtract v37_5 0) fun v38_7 =>
  xP Tryd.prog (sExtract v37_5 1) fun v39_8 =>
  xJoin (fun J9 =>
    xR Tryd.prog (sEq .eql 22 true v38_7 (.pointer none)) w6 fun v41_10 =>
    xIf v41_10 (
    J9 [(.bool true)] w6) (
    xR Tryd.prog (sEq .neq 24 true v39_8 (.nilIface)) w6 fun v44_11 =>
    J9 [v44_11] w6)) fun vs12 _ w14 =>
  xIf (vs12.getD 0 undef) (
    R (.returned (.bool false)) w14) (
    xE Tryd.prog (sCall 20 #[a2, (.int .i64 0), (.int .i64 12)]) w14 fun v47_15 w16 =>
  xE Tryd.prog (sCall 21 #[v30_1, v47_15, a3]) w16 fun v51_17 w18 =>
  xE Tryd.prog (sCall 21 #[v30_1, v47_15, a4]) w18 fun v55_19 w20 =>
  xE Tryd.prog (sCall 21 #[v30_1, v47_15, (.slice none 0 0)]) w20 fun v58_21 w22 =>
  xP Tryd.prog (sB .len #[29] #[v58_21]) fun v60_23 =>
  xLoop [(.int .i64 0)] w22 fun J24 vs25 _ w27 =>
    xP Tryd.prog (sBin .lss 3 (vs25.getD 0 undef) v60_23) fun v62_28 =>
    xIf v62_28 (
      xP Tryd.prog (sIA 29 v58_21 (vs25.getD 0 undef)) fun v66_29 =>
    xR Tryd.prog (sLoad 32 v66_29) w27 fun v67_30 =>
    xP Tryd.prog (sB .len #[32] #[v67_30]) fun v68_31 =>
    xLoop [(.int .i64 0)] w27 fun J32 vs33 _ w35 =>
      xP Tryd.prog (sBin .lss 3 (vs33.getD 0 undef) v68_31) fun v70_36 =>
      xIf v70_36 (
        xP Tryd.prog (sIA 29 v58_21 (vs25.getD 0 undef)) fun v74_37 =>
      xR Tryd.prog (sLoad 32 v74_37) (w35.drew) fun v75_38 =>
      xP Tryd.prog (sIA 29 v51_17 (vs25.getD 0 undef)) fun v79_39 =>
      xR Tryd.prog (sLoad 32 v79_39) (w35.drew) fun v80_40 =>
      xP Tryd.prog (sIA 32 v80_40 (vs33.getD 0 undef)) fun v82_41 =>
      xR Tryd.prog (sLoad 5 v82_41) (w35.drew) fun v83_42 =>
      xP Tryd.prog (sIA 29 v55_19 (vs25.getD 0 undef)) fun v86_43 =>
      xR Tryd.prog (sLoad 32 v86_43) (w35.drew) fun v87_44 =>
      xP Tryd.prog (sIA 32 v87_44 (vs33.getD 0 undef)) fun v89_45 =>
      xR Tryd.prog (sLoad 5 v89_45) (w35.drew) fun v90_46 =>
      xP Tryd.prog (sBin .xor 5 v83_42 v90_46) fun v91_47 =>
      xP Tryd.prog (sIA 32 v75_38 (vs33.getD 0 undef)) fun v92_48 =>
      xE Tryd.prog (sStore 5 v92_48 v91_47) (w35.drew) fun _ w49 =>
      xP Tryd.prog (sBin .add 3 (vs33.getD 0 undef) (.int .i64 1)) fun v93_50 =>
      J32 [v93_50] w49) (
        xP Tryd.prog (sBin .add 3 (vs25.getD 0 undef) (.int .i64 1)) fun v94_51 =>
    J24 [v94_51] w35)) (
      xE Tryd.prog (sCall 14 #[v38_7, v51_17]) w27 fun v98_52 w53 =>
  xP Tryd.prog (sExtract v98_52 0) fun v99_54 =>
  xP Tryd.prog (sExtract v98_52 1) fun v100_55 =>
  xE Tryd.prog (sCall 14 #[v38_7, v55_19]) w53 fun v104_56 w57 =>
  xP Tryd.prog (sExtract v104_56 0) fun v105_58 =>
  xP Tryd.prog (sExtract v104_56 1) fun v106_59 =>
  xE Tryd.prog (sCall 14 #[v38_7, v58_21]) w57 fun v110_60 w61 =>
  xP Tryd.prog (sExtract v110_60 0) fun v111_62 =>
  xP Tryd.prog (sExtract v110_60 1) fun v112_63 =>
  xJoin (fun J64 =>
    xR Tryd.prog (sEq .neq 24 true v100_55 (.nilIface)) w61 fun v114_65 =>
    xIf v114_65 (
    J64 [(.bool true)] w61) (
    xR Tryd.prog (sEq .neq 24 true v106_59 (.nilIface)) w61 fun v117_66 =>
    xIf v117_66 (
    J64 [(.bool true)] w61) (
    xR Tryd.prog (sEq .neq 24 true v112_63 (.nilIface)) w61 fun v121_67 =>
    xIf v121_67 (
    J64 [(.bool true)] w61) (
    xP Tryd.prog (sB .len #[29] #[v99_54]) fun v125_68 =>
    xR Tryd.prog (sEq .neq 3 false v125_68 v33_3) w61 fun v127_69 =>
    xIf v127_69 (
    J64 [(.bool true)] w61) (
    xP Tryd.prog (sB .len #[29] #[v105_58]) fun v131_70 =>
    xR Tryd.prog (sEq .neq 3 false v131_70 v33_3) w61 fun v133_71 =>
    xIf v133_71 (
    J64 [(.bool true)] w61) (
    xP Tryd.prog (sB .len #[29] #[v111_62]) fun v137_72 =>
    xR Tryd.prog (sEq .neq 3 false v137_72 v33_3) w61 fun v139_73 =>
    xIf v139_73 (
    J64 [(.bool true)] w61) (
    xP Tryd.prog (sSlice 29 v99_54 none (some v30_1) none) fun v144_74 =>
    xE Tryd.prog (sCall 16 #[v144_74, v51_17]) w61 fun v146_75 w76 =>
    xP Tryd.prog (sUn .not v146_75) fun v147_77 =>
    J64 [v147_77] w76))))))) fun vs78 _ w80 =>
  xIf (vs78.getD 0 undef) (
    R (.returned (.bool false)) w80) (
    xP Tryd.prog (sB .len #[29] #[v111_62]) fun v150_81 =>
  xLoop [(.int .i64 0)] w80 fun J82 vs83 _ w85 =>
    xP Tryd.prog (sBin .lss 3 (vs83.getD 0 undef) v150_81) fun v152_86 =>
    xIf v152_86 (
      xP Tryd.prog (sIA 29 v111_62 (vs83.getD 0 undef)) fun v156_87 =>
    xR Tryd.prog (sLoad 32 v156_87) w85 fun v157_88 =>
    xP Tryd.prog (sB .len #[32] #[v157_88]) fun v158_89 =>
    xLoop [(.int .i64 0)] w85 fun J90 vs91 _ w93 =>
      xP Tryd.prog (sBin .lss 3 (vs91.getD 0 undef) v158_89) fun v160_94 =>
      xIf v160_94 (
        xP Tryd.prog (sIA 29 v111_62 (vs83.getD 0 undef)) fun v164_95 =>
      xR Tryd.prog (sLoad 32 v164_95) (w93.drew) fun v165_96 =>
      xP Tryd.prog (sIA 32 v165_96 (vs91.getD 0 undef)) fun v167_97 =>
      xR Tryd.prog (sLoad 5 v167_97) (w93.drew) fun v168_98 =>
      xP Tryd.prog (sIA 29 v99_54 (vs83.getD 0 undef)) fun v171_99 =>
      xR Tryd.prog (sLoad 32 v171_99) (w93.drew) fun v172_100 =>
      xP Tryd.prog (sIA 32 v172_100 (vs91.getD 0 undef)) fun v174_101 =>
      xR Tryd.prog (sLoad 5 v174_101) (w93.drew) fun v175_102 =>
      xP Tryd.prog (sIA 29 v105_58 (vs83.getD 0 undef)) fun v178_103 =>
      xR Tryd.prog (sLoad 32 v178_103) (w93.drew) fun v179_104 =>
      xP Tryd.prog (sIA 32 v179_104 (vs91.getD 0 undef)) fun v181_105 =>
      xR Tryd.prog (sLoad 5 v181_105) (w93.drew) fun v182_106 =>
      xP Tryd.prog (sBin .xor 5 v175_102 v182_106) fun v183_107 =>
      xR Tryd.prog (sEq .neq 5 false v168_98 v183_107) (w93.drew) fun v184_108 =>
      xIf v184_108 (
        R (.returned (.bool false)) (w93.drew)) (
        xP Tryd.prog (sBin .add 3 (vs91.getD 0 undef) (.int .i64 1)) fun v185_109 =>
      J90 [v185_109] (w93.drew))) (
        xP Tryd.prog (sBin .add 3 (vs83.getD 0 undef) (.int .i64 1)) fun v186_110 =>
    J82 [v186_110] w93)) (
      xE Tryd.prog (sCall 3 #[]) w85 fun v187_111 w112 =>
  R (.returned v187_111) w112))))
theorem C_stavelaw4_CodeSystem {a0 : Value} {a1 : Value} {a2 : Value} {a3 : Value} {a4 : Value} {w : World} {R : Ending → World → Prop} (h : S_stavelaw4_CodeSystem a0 a1 a2 a3 a4 w R) : Calls Tryd.prog 5 #[a0, a1, a2, a3, a4] w R :=
  funcVC_sound (an := A_stavelaw4_CodeSystem) (args := [a0, a1, a2, a3, a4]) (k := 5) Tryd.func5 (by kernel_rfl) rfl
    (Eq.mp (show S_stavelaw4_CodeSystem a0 a1 a2 a3 a4 w R = funcVC Tryd.prog Tryd.f5 A_stavelaw4_CodeSystem [a0, a1, a2, a3, a4] w R by kernel_rfl) h)

/-- stave/stavelaw4.CodeBytes -/
def A_stavelaw4_CodeBytes : Ann := (.seq .nil (.seq .nil (.seq .nil (.seq .nil (.seq (.join [42] .nil .nil) (.seq .nil (.seq .nil (.seq .nil (.seq .nil (.seq .nil (.seq .nil (.seq (.join [93] .nil .nil) (.seq (.seq .nil (.one (.loop [96] (.seq .nil (.seq .nil (.seq (.one (.seq .nil (.seq .nil (.one (.loop [104] (.seq .nil (.seq .nil (.seq (.one (.seq .nil (.join [157] (.draw (.pre [0, 1, 2, 3, 4, 5, 6, 7, 8, 9, 10, 11, 12, 13, 14, 15, 16, 17, 18, 19, 20, 21, 22, 23, 24, 25, 26, 27, 28, 29, 30, 31, 32, 33, 34, 35, 36, 37, 38, 39, 40, 41, 42, 43, 44, 45, 46, 47, 48, 49, 50] .nil) [0, 0, 3, 7, 15, 15, 63, 127, 15, 511, 1023, 15, 15, 6159, 14351, 15, 63503, 129039, 262143, 524287, 1048575, 2097151, 2097151, 8388607, 16777215, 33554431, 33554431, 100663295, 268435455, 536870911, 1073741823, 2147483647, 2147483647, 8589934591, 17179869183, 2147483647, 68719476735, 137438953471, 2147483647, 2147483647, 826781204479, 1926292832255, 2147483647, 8523362598911, 17319455621119, 35184372088831, 2147483647, 70370891661311, 281474976710655, 562949953421311, 1125899906842623]) .nil))) .nil)))))))) .nil)))))) .nil)))))))))))))
def S_stavelaw4_CodeBytes (a0 : Value) (a1 : Value) (a2 : Value) (a3 : Value) (a4 : Value) (a5 : Value) (w : World) (R : Ending → World → Prop) : Prop :=
  xE Tryd.prog (sCall 20 #[a0, (.int .i64 1), (.int .i64 8)]) w fun v27_1 w2 =>
  xE Tryd.prog (sCall 20 #[a1, v27_1, (.int .i64 8)]) w2 fun v30_3 w4 =>
  xE Tryd.prog (sCall 12 #[v27_1, v30_3]) w4 fun v34_5 w6 =>
  xP Tryd.prog (sExtract v34_5 0) fun v35_7 =>
  xP Tryd.prog (sExtract v34_5 1) fun v36_8 =>
  xJoin (fun J9 =>
    xR Tryd.prog (sEq .eql 22 true v35_7 (.pointer none)) w6 fun v38_10 =>
    xIf v38_10 (
    J9 [(.bool true)] w6) (
    xR Tryd.prog (sEq .neq 24 true v36_8 (.nilIface)) w6 fun v41_11 =>
    J9 [v41_11] w6)) fun vs12 _ w14 =>
  xIf (vs12.getD 0 undef) (
    R (.returned (.bool false)) w14) (
    xE Tryd.prog (sCall 20 #[a2, (.int .i64 1), (.int .i64 12)]) w14 fun v44_15 w16 =>
  xE Tryd.prog (sCall 21 #[v27_1, v44_15, a4]) w16 fun v48_17 w18 =>
  xE Tryd.prog (sCall 14 #[v35_7, v48_17]) w18 fun v52_19 w20 =>
  xP Tryd.prog (sExtract v52_19 0) fun v53_21 =>
  xP Tryd.prog (sExtract v52_19 1) fun v54_22 =>
  xP Tryd.prog (sBin .sub 3 v44_15 (.int .i64 1)) fun v57_23 =>
  xE Tryd.prog (sCall 20 #[a3, (.int .i64 0), v57_23]) w20 fun v58_24 w25 =>
  xP Tryd.prog (sBin .sub 3 v27_1 (.int .i64 1)) fun v61_26 =>
  xP Tryd.prog (sIA 29 v48_17 v61_26) fun v62_27 =>
  xR Tryd.prog (sLoad 32 v62_27) w25 fun v63_28 =>
  xP Tryd.prog (sIA 32 v63_28 v58_24) fun v65_29 =>
  xR Tryd.prog (sLoad 5 v65_29) w25 fun v66_30 =>
  xP Tryd.prog (sBin .xor 5 v66_30 a5) fun v68_31 =>
  xP Tryd.prog (sIA 32 v63_28 v58_24) fun v69_32 =>
  xE Tryd.prog (sStore 5 v69_32 v68_31) w25 fun _ w33 =>
  xE Tryd.prog (sCall 14 #[v35_7, v48_17]) w33 fun v73_34 w35 =>
  xP Tryd.prog (sExtract v73_34 0) fun v74_36 =>
  xP Tryd.prog (sExtract v73_34 1) fun v75_37 =>
  xJoin (fun J38 =>
    xR Tryd.prog (sEq .neq 24 true v54_22 (.nilIface)) w35 fun v77_39 =>
    xIf v77_39 (
    J38 [(.bool true)] w35) (
    xR Tryd.prog (sEq .neq 24 true v75_37 (.nilIface)) w35 fun v80_40 =>
    xIf v80_40 (
    J38 [(.bool true)] w35) (
    xP Tryd.prog (sB .len #[29] #[v53_21]) fun v84_41 =>
    xR Tryd.prog (sEq .neq 3 false v84_41 v30_3) w35 fun v86_42 =>
    xIf v86_42 (
    J38 [(.bool true)] w35) (
    xP Tryd.prog (sB .len #[29] #[v74_36]) fun v90_43 =>
    xR Tryd.prog (sEq .neq 3 false v90_43 v30_3) w35 fun v92_44 =>
    J38 [v92_44] w35)))) fun vs45 _ w47 =>
  xIf (vs45.getD 0 undef) (
    R (.returned (.bool false)) w47) (
    xP Tryd.prog (sB .len #[29] #[v53_21]) fun v95_48 =>
  xLoop [(.int .i64 0)] w47 fun J49 vs50 _ w52 =>
    xP Tryd.prog (sBin .lss 3 (vs50.getD 0 undef) v95_48) fun v97_53 =>
    xIf v97_53 (
      xP Tryd.prog (sIA 29 v53_21 (vs50.getD 0 undef)) fun v101_54 =>
    xR Tryd.prog (sLoad 32 v101_54) w52 fun v102_55 =>
    xP Tryd.prog (sB .len #[32] #[v102_55]) fun v103_56 =>
    xLoop [(.int .i64 0)] w52 fun J57 vs58 _ w60 =>
      xP Tryd.prog (sBin .lss 3 (vs58.getD 0 undef) v103_56) fun v105_61 =>
      xIf v105_61 (
        xJoin (fun J62 =>
        xR Tryd.prog (sEq .neq 3 false (vs58.getD 0 undef) v58_24) (w60.drew) fun v109_63 =>
        xIf v109_63 (
        xP Tryd.prog (sIA 29 v53_21 (vs50.getD 0 undef)) fun v113_64 =>
        xR Tryd.prog (sLoad 32 v113_64) (w60.drew) fun v114_65 =>
        xP Tryd.prog (sIA 32 v114_65 (vs58.getD 0 undef)) fun v116_66 =>
        xR Tryd.prog (sLoad 5 v116_66) (w60.drew) fun v117_67 =>
        xP Tryd.prog (sIA 29 v74_36 (vs50.getD 0 undef)) fun v120_68 =>
        xR Tryd.prog (sLoad 32 v120_68) (w60.drew) fun v121_69 =>
        xP Tryd.prog (sIA 32 v121_69 (vs58.getD 0 undef)) fun v123_70 =>
        xR Tryd.prog (sLoad 5 v123_70) (w60.drew) fun v124_71 =>
        xR Tryd.prog (sEq .neq 5 false v117_67 v124_71) (w60.drew) fun v125_72 =>
        xIf v125_72 (
        J62 [(.bool true)] (w60.drew)) (
        xR Tryd.prog (sEq .eql 3 false (vs58.getD 0 undef) v58_24) (w60.drew) fun v130_73 =>
        xIf v130_73 (
        xP Tryd.prog (sBin .sub 3 v27_1 (.int .i64 1)) fun v134_74 =>
        xP Tryd.prog (sBin .geq 3 (vs50.getD 0 undef) v134_74) fun v135_75 =>
        xIf v135_75 (
        xP Tryd.prog (sIA 29 v53_21 (vs50.getD 0 undef)) fun v140_76 =>
        xR Tryd.prog (sLoad 32 v140_76) (w60.drew) fun v141_77 =>
        xP Tryd.prog (sIA 32 v141_77 (vs58.getD 0 undef)) fun v143_78 =>
        xR Tryd.prog (sLoad 5 v143_78) (w60.drew) fun v144_79 =>
        xP Tryd.prog (sIA 29 v74_36 (vs50.getD 0 undef)) fun v147_80 =>
        xR Tryd.prog (sLoad 32 v147_80) (w60.drew) fun v148_81 =>
        xP Tryd.prog (sIA 32 v148_81 (vs58.getD 0 undef)) fun v150_82 =>
        xR Tryd.prog (sLoad 5 v150_82) (w60.drew) fun v151_83 =>
        xR Tryd.prog (sEq .eql 5 false v144_79 v151_83) (w60.drew) fun v152_84 =>
        xR Tryd.prog (sEq .eql 5 true a5 (.int .u8 0)) (w60.drew) fun v154_85 =>
        xR Tryd.prog (sEq .neq 4 false v152_84 v154_85) (w60.drew) fun v155_86 =>
        J62 [v155_86] (w60.drew)) (
        J62 [(.bool false)] (w60.drew))) (
        J62 [(.bool false)] (w60.drew)))) (
        xR Tryd.prog (sEq .eql 3 false (vs58.getD 0 undef) v58_24) (w60.drew) fun v130_87 =>
        xIf v130_87 (
        xP Tryd.prog (sBin .sub 3 v27_1 (.int .i64 1)) fun v134_88 =>
        xP Tryd.prog (sBin .geq 3 (vs50.getD 0 undef) v134_88) fun v135_89 =>
        xIf v135_89 (
        xP Tryd.prog (sIA 29 v53_21 (vs50.getD 0 undef)) fun v140_90 =>
        xR Tryd.prog (sLoad 32 v140_90) (w60.drew) fun v141_91 =>
        xP Tryd.prog (sIA 32 v141_91 (vs58.getD 0 undef)) fun v143_92 =>
        xR Tryd.prog (sLoad 5 v143_92) (w60.drew) fun v144_93 =>
        xP Tryd.prog (sIA 29 v74_36 (vs50.getD 0 undef)) fun v147_94 =>
        xR Tryd.prog (sLoad 32 v147_94) (w60.drew) fun v148_95 =>
        xP Tryd.prog (sIA 32 v148_95 (vs58.getD 0 undef)) fun v150_96 =>
        xR Tryd.prog (sLoad 5 v150_96) (w60.drew) fun v151_97 =>
        xR Tryd.prog (sEq .eql 5 false v144_93 v151_97) (w60.drew) fun v152_98 =>
        xR Tryd.prog (sEq .eql 5 true a5 (.int .u8 0)) (w60.drew) fun v154_99 =>
        xR Tryd.prog (sEq .neq 4 false v152_98 v154_99) (w60.drew) fun v155_100 =>
        J62 [v155_100] (w60.drew)) (
        J62 [(.bool false)] (w60.drew))) (
        J62 [(.bool false)] (w60.drew)))) fun vs101 _ w103 =>
      xIf (vs101.getD 0 undef) (
        R (.returned (.bool false)) w103) (
        xP Tryd.prog (sBin .add 3 (vs58.getD 0 undef) (.int .i64 1)) fun v158_104 =>
      J57 [v158_104] w103)) (
        xP Tryd.prog (sBin .add 3 (vs50.getD 0 undef) (.int .i64 1)) fun v159_105 =>
    J49 [v159_105] w60)) (
      xE Tryd.prog (sCall 3 #[]) w52 fun v160_106 w107 =>
  R (.returned v160_106) w107)))
theorem C_stavelaw4_CodeBytes {a0 : Value} {a1 : Value} {a2 : Value} {a3 : Value} {a4 : Value} {a5 : Value} {w : World} {R : Ending → World → Prop} (h : S_stavelaw4_CodeBytes a0 a1 a2 a3 a4 a5 w R) : Calls Tryd.prog 6 #[a0, a1, a2, a3, a4, a5] w R :=
  funcVC_sound (an := A_stavelaw4_CodeBytes) (args := [a0, a1, a2, a3, a4, a5]) (k := 6) Tryd.func6 (by kernel_rfl) rfl
    (Eq.mp (show S_stavelaw4_CodeBytes a0 a1 a2 a3 a4 a5 w R = funcVC Tryd.prog Tryd.f6 A_stavelaw4_CodeBytes [a0, a1, a2, a3, a4, a5] w R by kernel_rfl) h)

/-- stave/stavelaw4.CodeFirst -/
def A_stavelaw4_CodeFirst : Ann := (.seq .nil (.seq .nil (.seq .nil (.seq .nil (.seq (.join [47] .nil .nil) (.seq .nil (.seq .nil (.seq .nil (.seq (.join [67] .nil .nil) (.seq .nil (.seq (.seq .nil (.one (.loop [72] .nil))) (.seq .nil (.seq .nil (.seq .nil (.seq (.seq .nil (.one (.loop [23, 25, 26] (.seq (.join [87] .nil .nil) (.seq (.one (.seq .nil (.seq .nil (.join [25, 28] (.join [106] .nil (.seq (.seq (.draw (.pre [0, 1, 2, 3, 4, 5, 6, 7] .nil) [0, 0, 0, 6, 14, 1, 33, 127]) .nil) .nil)) .nil)))) .nil))))) .nil)))))))))))))))
def S_stavelaw4_CodeFirst (a0 : Value) (a1 : Value) (a2 : Value) (a3 : Value) (a4 : Value) (a5 : Value) (w : World) (R : Ending → World → Prop) : Prop :=
  xE Tryd.prog (sCall 20 #[a0, (.int .i64 1), (.int .i64 8)]) w fun v32_1 w2 =>
  xE Tryd.prog (sCall 20 #[a1, v32_1, (.int .i64 8)]) w2 fun v35_3 w4 =>
  xE Tryd.prog (sCall 12 #[v32_1, v35_3]) w4 fun v39_5 w6 =>
  xP Tryd.prog (sExtract v39_5 0) fun v40_7 =>
  xP Tryd.prog (sExtract v39_5 1) fun v41_8 =>
  xJoin (fun J9 =>
    xR Tryd.prog (sEq .eql 22 true v40_7 (.pointer none)) w6 fun v43_10 =>
    xIf v43_10 (
    J9 [(.bool true)] w6) (
    xR Tryd.prog (sEq .neq 24 true v41_8 (.nilIface)) w6 fun v46_11 =>
    J9 [v46_11] w6)) fun vs12 _ w14 =>
  xIf (vs12.getD 0 undef) (
    R (.returned (.bool false)) w14) (
    xE Tryd.prog (sCall 20 #[a2, (.int .i64 1), (.int .i64 9)]) w14 fun v49_15 w16 =>
  xE Tryd.prog (sCall 21 #[v32_1, v49_15, a3]) w16 fun v53_17 w18 =>
  xE Tryd.prog (sCall 14 #[v40_7, v53_17]) w18 fun v57_19 w20 =>
  xP Tryd.prog (sExtract v57_19 0) fun v58_21 =>
  xP Tryd.prog (sExtract v57_19 1) fun v59_22 =>
  xJoin (fun J23 =>
    xR Tryd.prog (sEq .neq 24 true v59_22 (.nilIface)) w20 fun v61_24 =>
    xIf v61_24 (
    J23 [(.bool true)] w20) (
    xP Tryd.prog (sB .len #[29] #[v58_21]) fun v64_25 =>
    xR Tryd.prog (sEq .neq 3 false v64_25 v35_3) w20 fun v66_26 =>
    J23 [v66_26] w20)) fun vs27 _ w29 =>
  xIf (vs27.getD 0 undef) (
    R (.returned (.bool false)) w29) (
    xE Tryd.prog (sMakeSlice 32 v49_15 v49_15) w29 fun v69_30 w31 =>
  xP Tryd.prog (sB .len #[32] #[v69_30]) fun v71_32 =>
  xLoop [(.int .i64 0)] w31 fun J33 vs34 _ w36 =>
    xP Tryd.prog (sBin .lss 3 (vs34.getD 0 undef) v71_32) fun v73_37 =>
    xIf v73_37 (
      xP Tryd.prog (sIA 32 v69_30 (vs34.getD 0 undef)) fun v78_38 =>
    xE Tryd.prog (sStore 5 v78_38 a5) w36 fun _ w39 =>
    xP Tryd.prog (sBin .add 3 (vs34.getD 0 undef) (.int .i64 1)) fun v79_40 =>
    J33 [v79_40] w39) (
      xE Tryd.prog (sAlloc 49) w36 fun v24_41 w42 =>
  xLoop [(.slice none 0 0), (.int .i64 0), (.int .i64 0)] w42 fun J43 vs44 _ w46 =>
    xJoin (fun J47 =>
      xP Tryd.prog (sB .len #[47] #[a4]) fun v82_48 =>
      xP Tryd.prog (sBin .lss 3 (vs44.getD 2 undef) v82_48) fun v83_49 =>
      xIf v83_49 (
      xP Tryd.prog (sBin .lss 3 (vs44.getD 2 undef) (.int .i64 30)) fun v86_50 =>
      J47 [v86_50] w46) (
      J47 [(.bool false)] w46)) fun vs51 _ w53 =>
    xIf (vs51.getD 0 undef) (
      xP Tryd.prog (sIA 47 a4 (vs44.getD 2 undef)) fun v92_54 =>
    xR Tryd.prog (sLoad 3 v92_54) w53 fun v93_55 =>
    xP Tryd.prog (sBin .sub 3 v35_3 (.int .i64 1)) fun v95_56 =>
    xE Tryd.prog (sCall 20 #[v93_55, (.int .i64 0), v95_56]) w53 fun v96_57 w58 =>
    xJoin (fun J59 =>
      xJoin (fun J60 =>
        xP Tryd.prog (sBin .lss 3 (vs44.getD 1 undef) v32_1) fun v100_61 =>
        xIf v100_61 (
        xP Tryd.prog (sIA 49 v24_41 v96_57) fun v103_62 =>
        xR Tryd.prog (sLoad 4 v103_62) w58 fun v104_63 =>
        xP Tryd.prog (sUn .not v104_63) fun v105_64 =>
        J60 [v105_64] w58) (
        J60 [(.bool false)] w58)) fun vs65 _ w67 =>
      xIf (vs65.getD 0 undef) (
        xP Tryd.prog (sIA 29 v58_21 v96_57) fun v110_68 =>
        xR Tryd.prog (sLoad 32 v110_68) (w67.drew) fun v111_69 =>
        xP Tryd.prog (sIA 49 v24_41 v96_57) fun v112_70 =>
        xE Tryd.prog (sStore 4 v112_70 (.bool true)) (w67.drew) fun _ w71 =>
        xStill Tryd.prog (sLoad 32 v110_68) v111_69 w71 <|
        xP Tryd.prog (sBin .add 3 (vs44.getD 1 undef) (.int .i64 1)) fun v114_72 =>
        J59 [v114_72, v111_69] w71) (
        J59 [(vs44.getD 1 undef), v69_30] w67)) fun vs73 _ w75 =>
    xP Tryd.prog (sBuild 35 #[(0, v96_57), (1, (vs73.getD 1 undef))]) fun v118_76 =>
    xE Tryd.prog (sBuildSlice 48 1 #[(0, v118_76)]) w75 fun v119_77 w78 =>
    xE Tryd.prog (sB .append #[48, 48] #[(vs44.getD 0 undef), v119_77]) w78 fun v120_79 w80 =>
    xP Tryd.prog (sBin .add 3 (vs44.getD 2 undef) (.int .i64 1)) fun v89_81 =>
    J43 [v120_79, (vs73.getD 0 undef), v89_81] w80) (
      xE Tryd.prog (sCall 15 #[v40_7, (vs44.getD 0 undef)]) w53 fun v124_82 w83 =>
  xP Tryd.prog (sExtract v124_82 0) fun v125_84 =>
  xP Tryd.prog (sExtract v124_82 1) fun v126_85 =>
  xP Tryd.prog (sBin .lss 3 (vs44.getD 1 undef) v32_1) fun v129_86 =>
  xIf v129_86 (
    xE Tryd.prog (sCall 13 #[v126_85]) w83 fun v131_87 w88 =>
    xR Tryd.prog (sEq .eql 27 true v131_87 (.int .i64 3)) w88 fun v132_89 =>
    xIf v132_89 (
    xE Tryd.prog (sCall 3 #[]) w88 fun v134_90 w91 =>
    R (.returned v134_90) w91) (
    R (.returned (.bool false)) w88)) (
    xR Tryd.prog (sEq .eql 24 true v126_85 (.nilIface)) w83 fun v137_92 =>
  xIf v137_92 (
  xE Tryd.prog (sCall 16 #[v125_84, v53_17]) w83 fun v141_93 w94 =>
  xIf v141_93 (
  xE Tryd.prog (sCall 3 #[]) w94 fun v144_95 w96 =>
  R (.returned v144_95) w96) (
  R (.returned (.bool false)) w94)) (
  R (.returned (.bool false)) w83))))))
theorem C_stavelaw4_CodeFirst {a0 : Value} {a1 : Value} {a2 : Value} {a3 : Value} {a4 : Value} {a5 : Value} {w : World} {R : Ending → World → Prop} (h : S_stavelaw4_CodeFirst a0 a1 a2 a3 a4 a5 w R) : Calls Tryd.prog 7 #[a0, a1, a2, a3, a4, a5] w R :=
  funcVC_sound (an := A_stavelaw4_CodeFirst) (args := [a0, a1, a2, a3, a4, a5]) (k := 6) Tryd.func7 (by kernel_rfl) rfl
    (Eq.mp (show S_stavelaw4_CodeFirst a0 a1 a2 a3 a4 a5 w R = funcVC Tryd.prog Tryd.f7 A_stavelaw4_CodeFirst [a0, a1, a2, a3, a4, a5] w R by kernel_rfl) h)

/-- stave/stavelaw4.CodeDecodes -/
def A_stavelaw4_CodeDecodes : Ann := (.seq .nil (.seq .nil (.seq .nil (.seq .nil (.seq (.join [42] .nil .nil) (.seq .nil (.seq (.seq .nil (.one (.loop [15, 16] (.seq (.join [50] .nil .nil) (.seq (.one (.join [17] (.draw (.pre [0, 1, 2, 3, 4, 6, 7, 8, 9, 10, 11, 12, 13, 14, 15, 16, 17] (.alt 5 (.pre [] (.alt 18 (.pre [19, 20] (.alt 21 (.pre [22, 23, 24] .nil) (.op 23 (.pre [21, 22, 24] .nil)))) (.op 23 (.pre [18, 19, 20, 21, 22, 24] .nil)))) (.alt 18 (.pre [19, 20] (.alt 5 (.pre [] (.alt 21 (.pre [22, 23, 24] .nil) (.op 23 (.pre [21, 22, 24] .nil)))) (.op 23 (.pre [5, 21, 22, 24] .nil)))) (.op 23 (.pre [] (.alt 5 (.pre [18, 19, 20, 21, 22, 24] .nil) (.op 18 (.pre [19, 20, 5, 21, 22, 24] .nil)))))))) [0, 0, 3, 7, 15, 0, 0, 0, 192, 448, 960, 0, 0, 6144, 14336, 30720, 63488, 0, 131072, 522240, 1048512, 2097120, 4194303, 0, 16777215]) .nil)) .nil))))) (.seq .nil (.seq .nil (.seq (.join [102] .nil .nil) (.seq .nil (.seq (.join [116] .nil .nil) .nil))))))))))))
def S_stavelaw4_CodeDecodes (a0 : Value) (a1 : Value) (a2 : Value) (a3 : Value) (a4 : Value) (w : World) (R : Ending → World → Prop) : Prop :=
  xE Tryd.prog (sCall 20 #[a0, (.int .i64 1), (.int .i64 8)]) w fun v27_1 w2 =>
  xE Tryd.prog (sCall 20 #[a1, v27_1, (.int .i64 8)]) w2 fun v30_3 w4 =>
  xE Tryd.prog (sCall 12 #[v27_1, v30_3]) w4 fun v34_5 w6 =>
  xP Tryd.prog (sExtract v34_5 0) fun v35_7 =>
  xP Tryd.prog (sExtract v34_5 1) fun v36_8 =>
  xJoin (fun J9 =>
    xR Tryd.prog (sEq .eql 22 true v35_7 (.pointer none)) w6 fun v38_10 =>
    xIf v38_10 (
    J9 [(.bool true)] w6) (
    xR Tryd.prog (sEq .neq 24 true v36_8 (.nilIface)) w6 fun v41_11 =>
    J9 [v41_11] w6)) fun vs12 _ w14 =>
  xIf (vs12.getD 0 undef) (
    R (.returned (.bool false)) w14) (
    xLoop [(.slice none 0 0), (.int .i64 0)] w14 fun J15 vs16 _ w18 =>
    xJoin (fun J19 =>
      xP Tryd.prog (sB .len #[48] #[a3]) fun v45_20 =>
      xP Tryd.prog (sBin .lss 3 (vs16.getD 1 undef) v45_20) fun v46_21 =>
      xIf v46_21 (
      xP Tryd.prog (sBin .lss 3 (vs16.getD 1 undef) (.int .i64 12)) fun v49_22 =>
      J19 [v49_22] w18) (
      J19 [(.bool false)] w18)) fun vs23 _ w25 =>
    xIf (vs23.getD 0 undef) (
      xJoin (fun J26 =>
      xP Tryd.prog (sIA 48 a3 (vs16.getD 1 undef)) fun v55_27 =>
      xP Tryd.prog (sFA 35 v55_27 0) fun v56_28 =>
      xR Tryd.prog (sLoad 3 v56_28) (w25.drew) fun v57_29 =>
      xP Tryd.prog (sIA 48 a3 (vs16.getD 1 undef)) fun v61_30 =>
      xP Tryd.prog (sFA 35 v61_30 1) fun v62_31 =>
      xR Tryd.prog (sLoad 32 v62_31) (w25.drew) fun v63_32 =>
      xP Tryd.prog (sIA 48 a3 (vs16.getD 1 undef)) fun v66_33 =>
      xP Tryd.prog (sFA 35 v66_33 1) fun v67_34 =>
      xR Tryd.prog (sLoad 32 v67_34) (w25.drew) fun v68_35 =>
      xP Tryd.prog (sB .len #[32] #[v68_35]) fun v69_36 =>
      (xE Tryd.prog (sBuildSlice 32 0 #[]) (w25.drew) fun v58_37 w38 =>
      xStill Tryd.prog (sLoad 32 v67_34) v68_35 w38 <|
      xStill Tryd.prog (sLoad 32 v62_31) v63_32 w38 <|
      xStill Tryd.prog (sLoad 3 v56_28) v57_29 w38 <|
      (xE Tryd.prog (sCall 20 #[a2, (.int .i64 0), (.int .i64 9)]) w38 fun v71_39 w40 =>
      xStill Tryd.prog (sLoad 32 v67_34) v68_35 w40 <|
      xStill Tryd.prog (sLoad 32 v62_31) v63_32 w40 <|
      xStill Tryd.prog (sLoad 3 v56_28) v57_29 w40 <|
      xP Tryd.prog (sB .min #[3, 3] #[v69_36, v71_39]) fun v72_41 =>
      xP Tryd.prog (sSlice 32 v63_32 none (some v72_41) none) fun v73_42 =>
      (xE Tryd.prog (sB .append #[32, 32] #[v58_37, v73_42]) w40 fun v74_43 w44 =>
      xStill Tryd.prog (sLoad 3 v56_28) v57_29 w44 <|
      xP Tryd.prog (sBuild 35 #[(0, v57_29), (1, v74_43)]) fun v75_45 =>
      xE Tryd.prog (sAlloc 35) w44 fun v17_46 w47 =>
      xStill Tryd.prog (sLoad 3 v56_28) v57_29 w47 <|
      xE Tryd.prog (sStore 35 v17_46 v75_45) w47 fun _ w48 =>
      J26 [v17_46] w48) ∧
      (xE Tryd.prog (sAlloc 35) w40 fun v17_49 w50 =>
      xStill Tryd.prog (sLoad 32 v67_34) v68_35 w50 <|
      xStill Tryd.prog (sLoad 32 v62_31) v63_32 w50 <|
      xStill Tryd.prog (sLoad 3 v56_28) v57_29 w50 <|
      xE Tryd.prog (sB .append #[32, 32] #[v58_37, v73_42]) w50 fun v74_51 w52 =>
      xStill Tryd.prog (sLoad 3 v56_28) v57_29 w52 <|
      xP Tryd.prog (sBuild 35 #[(0, v57_29), (1, v74_51)]) fun v75_53 =>
      xE Tryd.prog (sStore 35 v17_49 v75_53) w52 fun _ w54 =>
      J26 [v17_49] w54)) ∧
      (xE Tryd.prog (sAlloc 35) w38 fun v17_55 w56 =>
      xStill Tryd.prog (sLoad 32 v67_34) v68_35 w56 <|
      xStill Tryd.prog (sLoad 32 v62_31) v63_32 w56 <|
      xStill Tryd.prog (sLoad 3 v56_28) v57_29 w56 <|
      xE Tryd.prog (sCall 20 #[a2, (.int .i64 0), (.int .i64 9)]) w56 fun v71_57 w58 =>
      xStill Tryd.prog (sLoad 32 v67_34) v68_35 w58 <|
      xStill Tryd.prog (sLoad 32 v62_31) v63_32 w58 <|
      xStill Tryd.prog (sLoad 3 v56_28) v57_29 w58 <|
      xP Tryd.prog (sB .min #[3, 3] #[v69_36, v71_57]) fun v72_59 =>
      xP Tryd.prog (sSlice 32 v63_32 none (some v72_59) none) fun v73_60 =>
      xE Tryd.prog (sB .append #[32, 32] #[v58_37, v73_60]) w58 fun v74_61 w62 =>
      xStill Tryd.prog (sLoad 3 v56_28) v57_29 w62 <|
      xP Tryd.prog (sBuild 35 #[(0, v57_29), (1, v74_61)]) fun v75_63 =>
      xE Tryd.prog (sStore 35 v17_55 v75_63) w62 fun _ w64 =>
      J26 [v17_55] w64)) ∧
      (xE Tryd.prog (sCall 20 #[a2, (.int .i64 0), (.int .i64 9)]) (w25.drew) fun v71_65 w66 =>
      xStill Tryd.prog (sLoad 32 v67_34) v68_35 w66 <|
      xStill Tryd.prog (sLoad 32 v62_31) v63_32 w66 <|
      xStill Tryd.prog (sLoad 3 v56_28) v57_29 w66 <|
      xP Tryd.prog (sB .min #[3, 3] #[v69_36, v71_65]) fun v72_67 =>
      xP Tryd.prog (sSlice 32 v63_32 none (some v72_67) none) fun v73_68 =>
      (xE Tryd.prog (sBuildSlice 32 0 #[]) w66 fun v58_69 w70 =>
      xStill Tryd.prog (sLoad 32 v67_34) v68_35 w70 <|
      xStill Tryd.prog (sLoad 32 v62_31) v63_32 w70 <|
      xStill Tryd.prog (sLoad 3 v56_28) v57_29 w70 <|
      (xE Tryd.prog (sB .append #[32, 32] #[v58_69, v73_68]) w70 fun v74_71 w72 =>
      xStill Tryd.prog (sLoad 3 v56_28) v57_29 w72 <|
      xP Tryd.prog (sBuild 35 #[(0, v57_29), (1, v74_71)]) fun v75_73 =>
      xE Tryd.prog (sAlloc 35) w72 fun v17_74 w75 =>
      xStill Tryd.prog (sLoad 3 v56_28) v57_29 w75 <|
      xE Tryd.prog (sStore 35 v17_74 v75_73) w75 fun _ w76 =>
      J26 [v17_74] w76) ∧
      (xE Tryd.prog (sAlloc 35) w70 fun v17_77 w78 =>
      xStill Tryd.prog (sLoad 32 v67_34) v68_35 w78 <|
      xStill Tryd.prog (sLoad 32 v62_31) v63_32 w78 <|
      xStill Tryd.prog (sLoad 3 v56_28) v57_29 w78 <|
      xE Tryd.prog (sB .append #[32, 32] #[v58_69, v73_68]) w78 fun v74_79 w80 =>
      xStill Tryd.prog (sLoad 3 v56_28) v57_29 w80 <|
      xP Tryd.prog (sBuild 35 #[(0, v57_29), (1, v74_79)]) fun v75_81 =>
      xE Tryd.prog (sStore 35 v17_77 v75_81) w80 fun _ w82 =>
      J26 [v17_77] w82)) ∧
      (xE Tryd.prog (sAlloc 35) w66 fun v17_83 w84 =>
      xStill Tryd.prog (sLoad 32 v67_34) v68_35 w84 <|
      xStill Tryd.prog (sLoad 32 v62_31) v63_32 w84 <|
      xStill Tryd.prog (sLoad 3 v56_28) v57_29 w84 <|
      xE Tryd.prog (sBuildSlice 32 0 #[]) w84 fun v58_85 w86 =>
      xStill Tryd.prog (sLoad 32 v67_34) v68_35 w86 <|
      xStill Tryd.prog (sLoad 32 v62_31) v63_32 w86 <|
      xStill Tryd.prog (sLoad 3 v56_28) v57_29 w86 <|
      xE Tryd.prog (sB .append #[32, 32] #[v58_85, v73_68]) w86 fun v74_87 w88 =>
      xStill Tryd.prog (sLoad 3 v56_28) v57_29 w88 <|
      xP Tryd.prog (sBuild 35 #[(0, v57_29), (1, v74_87)]) fun v75_89 =>
      xE Tryd.prog (sStore 35 v17_83 v75_89) w88 fun _ w90 =>
      J26 [v17_83] w90)) ∧
      (xE Tryd.prog (sAlloc 35) (w25.drew) fun v17_91 w92 =>
      xStill Tryd.prog (sLoad 32 v67_34) v68_35 w92 <|
      xStill Tryd.prog (sLoad 32 v62_31) v63_32 w92 <|
      xStill Tryd.prog (sLoad 3 v56_28) v57_29 w92 <|
      (xE Tryd.prog (sBuildSlice 32 0 #[]) w92 fun v58_93 w94 =>
      xStill Tryd.prog (sLoad 32 v67_34) v68_35 w94 <|
      xStill Tryd.prog (sLoad 32 v62_31) v63_32 w94 <|
      xStill Tryd.prog (sLoad 3 v56_28) v57_29 w94 <|
      xE Tryd.prog (sCall 20 #[a2, (.int .i64 0), (.int .i64 9)]) w94 fun v71_95 w96 =>
      xStill Tryd.prog (sLoad 32 v67_34) v68_35 w96 <|
      xStill Tryd.prog (sLoad 32 v62_31) v63_32 w96 <|
      xStill Tryd.prog (sLoad 3 v56_28) v57_29 w96 <|
      xP Tryd.prog (sB .min #[3, 3] #[v69_36, v71_95]) fun v72_97 =>
      xP Tryd.prog (sSlice 32 v63_32 none (some v72_97) none) fun v73_98 =>
      xE Tryd.prog (sB .append #[32, 32] #[v58_93, v73_98]) w96 fun v74_99 w100 =>
      xStill Tryd.prog (sLoad 3 v56_28) v57_29 w100 <|
      xP Tryd.prog (sBuild 35 #[(0, v57_29), (1, v74_99)]) fun v75_101 =>
      xE Tryd.prog (sStore 35 v17_91 v75_101) w100 fun _ w102 =>
      J26 [v17_91] w102) ∧
      (xE Tryd.prog (sCall 20 #[a2, (.int .i64 0), (.int .i64 9)]) w92 fun v71_103 w104 =>
      xStill Tryd.prog (sLoad 32 v67_34) v68_35 w104 <|
      xStill Tryd.prog (sLoad 32 v62_31) v63_32 w104 <|
      xStill Tryd.prog (sLoad 3 v56_28) v57_29 w104 <|
      xP Tryd.prog (sB .min #[3, 3] #[v69_36, v71_103]) fun v72_105 =>
      xP Tryd.prog (sSlice 32 v63_32 none (some v72_105) none) fun v73_106 =>
      xE Tryd.prog (sBuildSlice 32 0 #[]) w104 fun v58_107 w108 =>
      xStill Tryd.prog (sLoad 32 v67_34) v68_35 w108 <|
      xStill Tryd.prog (sLoad 32 v62_31) v63_32 w108 <|
      xStill Tryd.prog (sLoad 3 v56_28) v57_29 w108 <|
      xE Tryd.prog (sB .append #[32, 32] #[v58_107, v73_106]) w108 fun v74_109 w110 =>
      xStill Tryd.prog (sLoad 3 v56_28) v57_29 w110 <|
      xP Tryd.prog (sBuild 35 #[(0, v57_29), (1, v74_109)]) fun v75_111 =>
      xE Tryd.prog (sStore 35 v17_91 v75_111) w110 fun _ w112 =>
      J26 [v17_91] w112))) fun vs113 _ w115 =>
    xR Tryd.prog (sLoad 35 (vs113.getD 0 undef)) w115 fun v77_116 =>
    xE Tryd.prog (sBuildSlice 48 1 #[(0, v77_116)]) w115 fun v78_117 w118 =>
    xE Tryd.prog (sB .append #[48, 48] #[(vs16.getD 0 undef), v78_117]) w118 fun v79_119 w120 =>
    xP Tryd.prog (sBin .add 3 (vs16.getD 1 undef) (.int .i64 1)) fun v52_121 =>
    J15 [v79_119, v52_121] w120) (
      xE Tryd.prog (sCall 15 #[v35_7, (vs16.getD 0 undef)]) w25 fun v83_122 w123 =>
  xP Tryd.prog (sExtract v83_122 0) fun v84_124 =>
  xP Tryd.prog (sExtract v83_122 1) fun v85_125 =>
  xE Tryd.prog (sCall 22 #[v27_1, v30_3, (vs16.getD 0 undef)]) w123 fun v90_126 w127 =>
  xP Tryd.prog (sExtract v90_126 0) fun v91_128 =>
  xP Tryd.prog (sExtract v90_126 1) fun v92_129 =>
  xJoin (fun J130 =>
    xE Tryd.prog (sCall 16 #[v84_124, v91_128]) w127 fun v95_131 w132 =>
    xP Tryd.prog (sUn .not v95_131) fun v96_133 =>
    xIf v96_133 (
    J130 [(.bool true)] w132) (
    xE Tryd.prog (sCall 13 #[v85_125]) w132 fun v99_134 w135 =>
    xR Tryd.prog (sEq .neq 3 false v99_134 v92_129) w135 fun v101_136 =>
    J130 [v101_136] w135)) fun vs137 _ w139 =>
  xIf (vs137.getD 0 undef) (
    R (.returned (.bool false)) w139) (
    xE Tryd.prog (sCall 23 #[v35_7, a4, (vs16.getD 0 undef)]) w139 fun v107_140 w141 =>
  xP Tryd.prog (sExtract v107_140 0) fun v108_142 =>
  xP Tryd.prog (sExtract v107_140 1) fun v109_143 =>
  xJoin (fun J144 =>
    xP Tryd.prog (sBin .lss 3 a4 (.int .i64 0)) fun v111_145 =>
    xIf v111_145 (
    J144 [(.bool true)] w141) (
    xP Tryd.prog (sBin .geq 3 a4 v30_3) fun v115_146 =>
    J144 [v115_146] w141)) fun vs147 _ w149 =>
  xIf (vs147.getD 0 undef) (
    xE Tryd.prog (sCall 13 #[v109_143]) w149 fun v118_150 w151 =>
    xR Tryd.prog (sEq .eql 27 true v118_150 (.int .i64 1)) w151 fun v119_152 =>
    xIf v119_152 (
    xP Tryd.prog (sB .len #[32] #[v108_142]) fun v122_153 =>
    xR Tryd.prog (sEq .eql 3 true v122_153 (.int .i64 0)) w151 fun v123_154 =>
    xIf v123_154 (
    xE Tryd.prog (sCall 3 #[]) w151 fun v126_155 w156 =>
    R (.returned v126_155) w156) (
    R (.returned (.bool false)) w151)) (
    R (.returned (.bool false)) w151)) (
    xR Tryd.prog (sEq .neq 3 true v92_129 (.int .i64 0)) w149 fun v129_157 =>
  xIf v129_157 (
    xE Tryd.prog (sCall 13 #[v109_143]) w149 fun v131_158 w159 =>
    xR Tryd.prog (sEq .eql 3 false v131_158 v92_129) w159 fun v133_160 =>
    xIf v133_160 (
    xP Tryd.prog (sB .len #[32] #[v108_142]) fun v136_161 =>
    xR Tryd.prog (sEq .eql 3 true v136_161 (.int .i64 0)) w159 fun v137_162 =>
    xIf v137_162 (
    xE Tryd.prog (sCall 3 #[]) w159 fun v140_163 w164 =>
    R (.returned v140_163) w164) (
    R (.returned (.bool false)) w159)) (
    R (.returned (.bool false)) w159)) (
    xE Tryd.prog (sCall 19 #[v27_1, v30_3, v91_128]) w149 fun v146_165 w166 =>
  xP Tryd.prog (sExtract v146_165 0) fun v147_167 =>
  xP Tryd.prog (sExtract v146_165 1) fun _ =>
  xR Tryd.prog (sEq .eql 24 true v109_143 (.nilIface)) w166 fun v150_169 =>
  xIf v150_169 (
  xP Tryd.prog (sB .len #[29] #[v147_167]) fun v153_170 =>
  xR Tryd.prog (sEq .eql 3 false v153_170 v30_3) w166 fun v155_171 =>
  xIf v155_171 (
  xP Tryd.prog (sIA 29 v147_167 a4) fun v161_172 =>
  xR Tryd.prog (sLoad 32 v161_172) w166 fun v162_173 =>
  xE Tryd.prog (sCall 24 #[v108_142, v162_173]) w166 fun v163_174 w175 =>
  xIf v163_174 (
  xE Tryd.prog (sCall 3 #[]) w175 fun v166_176 w177 =>
  R (.returned v166_176) w177) (
  R (.returned (.bool false)) w175)) (
  R (.returned (.bool false)) w166)) (
  R (.returned (.bool false)) w166))))))
theorem C_stavelaw4_CodeDecodes {a0 : Value} {a1 : Value} {a2 : Value} {a3 : Value} {a4 : Value} {w : World} {R : Ending → World → Prop} (h : S_stavelaw4_CodeDecodes a0 a1 a2 a3 a4 w R) : Calls Tryd.prog 8 #[a0, a1, a2, a3, a4] w R :=
  funcVC_sound (an := A_stavelaw4_CodeDecodes) (args := [a0, a1, a2, a3, a4]) (k := 5) Tryd.func8 (by kernel_rfl) rfl
    (Eq.mp (show S_stavelaw4_CodeDecodes a0 a1 a2 a3 a4 w R = funcVC Tryd.prog Tryd.f8 A_stavelaw4_CodeDecodes [a0, a1, a2, a3, a4] w R by kernel_rfl) h)

/-- stave/stavelaw4.CodeBack -/
def A_stavelaw4_CodeBack : Ann := (.seq .nil (.seq .nil (.seq .nil (.seq .nil (.seq (.join [46] .nil .nil) (.seq .nil (.seq .nil (.seq (.join [65] .nil .nil) (.seq .nil (.seq (.seq .nil (.one (.loop [19, 68] .nil))) (.seq (.seq .nil (.one (.loop [18, 19, 21] (.seq .nil (.seq (.one (.seq .nil (.join [22] .nil (.seq .nil (.draw (.pre [1, 2, 3, 5, 6, 7, 8, 0, 4, 9, 10] .nil) [0, 0, 0, 6, 15, 0, 0, 64, 224, 511, 1023]))))) .nil))))) (.seq .nil (.seq (.join [129] .nil .nil) (.seq (.seq .nil (.one (.loop [132] (.seq .nil (.seq .nil (.seq (.one (.seq .nil (.seq .nil (.join [152] .nil .nil)))) .nil)))))) .nil))))))))))))))
def S_stavelaw4_CodeBack (a0 : Value) (a1 : Value) (a2 : Value) (a3 : Value) (a4 : Value) (w : World) (R : Ending → World → Prop) : Prop :=
  xE Tryd.prog (sCall 20 #[a0, (.int .i64 1), (.int .i64 8)]) w fun v31_1 w2 =>
  xE Tryd.prog (sCall 20 #[a1, v31_1, (.int .i64 8)]) w2 fun v34_3 w4 =>
  xE Tryd.prog (sCall 12 #[v31_1, v34_3]) w4 fun v38_5 w6 =>
  xP Tryd.prog (sExtract v38_5 0) fun v39_7 =>
  xP Tryd.prog (sExtract v38_5 1) fun v40_8 =>
  xJoin (fun J9 =>
    xR Tryd.prog (sEq .eql 22 true v39_7 (.pointer none)) w6 fun v42_10 =>
    xIf v42_10 (
    J9 [(.bool true)] w6) (
    xR Tryd.prog (sEq .neq 24 true v40_8 (.nilIface)) w6 fun v45_11 =>
    J9 [v45_11] w6)) fun vs12 _ w14 =>
  xIf (vs12.getD 0 undef) (
    R (.returned (.bool false)) w14) (
    xE Tryd.prog (sCall 20 #[a2, (.int .i64 0), (.int .i64 12)]) w14 fun v49_15 w16 =>
  xE Tryd.prog (sCall 21 #[v31_1, v49_15, a3]) w16 fun v51_17 w18 =>
  xE Tryd.prog (sCall 14 #[v39_7, v51_17]) w18 fun v55_19 w20 =>
  xP Tryd.prog (sExtract v55_19 0) fun v56_21 =>
  xP Tryd.prog (sExtract v55_19 1) fun v57_22 =>
  xJoin (fun J23 =>
    xR Tryd.prog (sEq .neq 24 true v57_22 (.nilIface)) w20 fun v59_24 =>
    xIf v59_24 (
    J23 [(.bool true)] w20) (
    xP Tryd.prog (sB .len #[29] #[v56_21]) fun v62_25 =>
    xR Tryd.prog (sEq .neq 3 false v62_25 v34_3) w20 fun v64_26 =>
    J23 [v64_26] w20)) fun vs27 _ w29 =>
  xIf (vs27.getD 0 undef) (
    R (.returned (.bool false)) w29) (
    xP Tryd.prog (sB .len #[29] #[v56_21]) fun v67_30 =>
  xLoop [(.slice none 0 0), (.int .i64 0)] w29 fun J31 vs32 _ w34 =>
    xP Tryd.prog (sBin .lss 3 (vs32.getD 1 undef) v67_30) fun v69_35 =>
    xIf v69_35 (
      xP Tryd.prog (sIA 29 v56_21 (vs32.getD 1 undef)) fun v75_36 =>
    xR Tryd.prog (sLoad 32 v75_36) w34 fun v76_37 =>
    xP Tryd.prog (sBuild 35 #[(0, (vs32.getD 1 undef)), (1, v76_37)]) fun v77_38 =>
    xE Tryd.prog (sBuildSlice 48 1 #[(0, v77_38)]) w34 fun v78_39 w40 =>
    xE Tryd.prog (sB .append #[48, 48] #[(vs32.getD 0 undef), v78_39]) w40 fun v79_41 w42 =>
    xP Tryd.prog (sBin .add 3 (vs32.getD 1 undef) (.int .i64 1)) fun v80_43 =>
    J31 [v79_41, v80_43] w42) (
      xLoop [(.slice none 0 0), (vs32.getD 0 undef), (.int .i64 0)] w34 fun J44 vs45 _ w47 =>
    xP Tryd.prog (sB .len #[48] #[(vs45.getD 0 undef)]) fun v82_48 =>
    xP Tryd.prog (sBin .lss 3 v82_48 v31_1) fun v84_49 =>
    xIf v84_49 (
      xJoin (fun J50 =>
      xP Tryd.prog (sB .len #[47] #[a4]) fun v89_51 =>
      xP Tryd.prog (sBin .lss 3 (vs45.getD 2 undef) v89_51) fun v90_52 =>
      xIf v90_52 (
        xP Tryd.prog (sIA 47 a4 (vs45.getD 2 undef)) fun v93_53 =>
        xR Tryd.prog (sLoad 3 v93_53) w47 fun v94_54 =>
        xP Tryd.prog (sB .len #[48] #[(vs45.getD 1 undef)]) fun v96_55 =>
        xP Tryd.prog (sBin .sub 3 v96_55 (.int .i64 1)) fun v97_56 =>
        xE Tryd.prog (sCall 20 #[v94_54, (.int .i64 0), v97_56]) w47 fun v98_57 w58 =>
        J50 [v98_57] w58) (
        J50 [(.int .i64 0)] w47)) fun vs59 _ w61 =>
    xP Tryd.prog (sIA 48 (vs45.getD 1 undef) (vs59.getD 0 undef)) fun v102_62 =>
    xR Tryd.prog (sLoad 35 v102_62) w61 fun v103_63 =>
    xE Tryd.prog (sBuildSlice 48 1 #[(0, v103_63)]) w61 fun v104_64 w65 =>
    xE Tryd.prog (sB .append #[48, 48] #[(vs45.getD 0 undef), v104_64]) w65 fun v105_66 w67 =>
    xP Tryd.prog (sSlice 48 (vs45.getD 1 undef) none (some (vs59.getD 0 undef)) none) fun v109_68 =>
    xP Tryd.prog (sBin .add 3 (vs59.getD 0 undef) (.int .i64 1)) fun v113_69 =>
    xP Tryd.prog (sSlice 48 (vs45.getD 1 undef) (some v113_69) none none) fun v114_70 =>
    xE Tryd.prog (sBuildSlice 48 0 #[]) (w67.drew) fun v106_71 w72 =>
    xE Tryd.prog (sB .append #[48, 48] #[v106_71, v109_68]) w72 fun v110_73 w74 =>
    xE Tryd.prog (sB .append #[48, 48] #[v110_73, v114_70]) w74 fun v115_75 w76 =>
    xP Tryd.prog (sBin .add 3 (vs45.getD 2 undef) (.int .i64 1)) fun v86_77 =>
    J44 [v105_66, v115_75, v86_77] w76) (
      xE Tryd.prog (sCall 15 #[v39_7, (vs45.getD 0 undef)]) w47 fun v119_78 w79 =>
  xP Tryd.prog (sExtract v119_78 0) fun v120_80 =>
  xP Tryd.prog (sExtract v119_78 1) fun v121_81 =>
  xJoin (fun J82 =>
    xR Tryd.prog (sEq .neq 24 true v121_81 (.nilIface)) w79 fun v123_83 =>
    xIf v123_83 (
    J82 [(.bool true)] w79) (
    xE Tryd.prog (sCall 16 #[v120_80, v51_17]) w79 fun v127_84 w85 =>
    xP Tryd.prog (sUn .not v127_84) fun v128_86 =>
    J82 [v128_86] w85)) fun vs87 _ w89 =>
  xIf (vs87.getD 0 undef) (
    R (.returned (.bool false)) w89) (
    xP Tryd.prog (sB .len #[29] #[v56_21]) fun v131_90 =>
  xLoop [(.int .i64 0)] w89 fun J91 vs92 _ w94 =>
    xP Tryd.prog (sBin .lss 3 (vs92.getD 0 undef) v131_90) fun v133_95 =>
    xIf v133_95 (
      xE Tryd.prog (sCall 23 #[v39_7, (vs92.getD 0 undef), (vs45.getD 0 undef)]) w94 fun v139_96 w97 =>
    xP Tryd.prog (sExtract v139_96 0) fun v140_98 =>
    xP Tryd.prog (sExtract v139_96 1) fun v141_99 =>
    xJoin (fun J100 =>
      xR Tryd.prog (sEq .neq 24 true v141_99 (.nilIface)) w97 fun v143_101 =>
      xIf v143_101 (
      J100 [(.bool true)] w97) (
      xP Tryd.prog (sIA 29 v56_21 (vs92.getD 0 undef)) fun v148_102 =>
      xR Tryd.prog (sLoad 32 v148_102) w97 fun v149_103 =>
      xE Tryd.prog (sCall 24 #[v140_98, v149_103]) w97 fun v150_104 w105 =>
      xP Tryd.prog (sUn .not v150_104) fun v151_106 =>
      J100 [v151_106] w105)) fun vs107 _ w109 =>
    xIf (vs107.getD 0 undef) (
      R (.returned (.bool false)) w109) (
      xP Tryd.prog (sBin .add 3 (vs92.getD 0 undef) (.int .i64 1)) fun v153_110 =>
    J91 [v153_110] w109)) (
      xP Tryd.prog (sSlice 48 (vs45.getD 0 undef) (some (.int .i64 1)) none none) fun v157_111 =>
  xE Tryd.prog (sCall 15 #[v39_7, v157_111]) w94 fun v158_112 w113 =>
  xP Tryd.prog (sExtract v158_112 0) fun _ =>
  xP Tryd.prog (sExtract v158_112 1) fun v160_115 =>
  xE Tryd.prog (sCall 13 #[v160_115]) w113 fun v162_116 w117 =>
  xR Tryd.prog (sEq .eql 27 true v162_116 (.int .i64 3)) w117 fun v163_118 =>
  xIf v163_118 (
  xE Tryd.prog (sCall 3 #[]) w117 fun v165_119 w120 =>
  R (.returned v165_119) w120) (
  R (.returned (.bool false)) w117)))))))
theorem C_stavelaw4_CodeBack {a0 : Value} {a1 : Value} {a2 : Value} {a3 : Value} {a4 : Value} {w : World} {R : Ending → World → Prop} (h : S_stavelaw4_CodeBack a0 a1 a2 a3 a4 w R) : Calls Tryd.prog 9 #[a0, a1, a2, a3, a4] w R :=
  funcVC_sound (an := A_stavelaw4_CodeBack) (args := [a0, a1, a2, a3, a4]) (k := 5) Tryd.func9 (by kernel_rfl) rfl
    (Eq.mp (show S_stavelaw4_CodeBack a0 a1 a2 a3 a4 w R = funcVC Tryd.prog Tryd.f9 A_stavelaw4_CodeBack [a0, a1, a2, a3, a4] w R by kernel_rfl) h)

/-- stave/stavelaw4.CodeDelta -/
def A_stavelaw4_CodeDelta : Ann := (.seq .nil (.seq .nil (.seq .nil (.seq .nil (.seq (.join [52] .nil .nil) (.seq .nil (.seq .nil (.seq .nil (.seq .nil (.seq .nil (.seq .nil (.seq .nil (.seq .nil (.seq .nil (.seq (.join [108] .nil .nil) (.seq (.seq .nil (.one (.loop [111] (.seq .nil (.seq .nil (.seq (.one (.seq .nil (.seq .nil (.seq (.join [131] .nil .nil) (.seq .nil (.one (.loop [134] (.seq .nil (.seq .nil (.seq (.one (.seq .nil (.seq (.draw (.pre [0, 1, 2, 3, 4, 5, 6, 7, 8, 9, 10, 11, 12, 13, 14, 15, 16, 17, 18, 19] .nil) [0, 0, 3, 7, 0, 31, 63, 0, 0, 384, 896, 2047, 0, 0, 12288, 28672, 0, 126976, 258048, 524287]) .nil))) .nil)))))))))) .nil)))))) .nil))))))))))))))))
def S_stavelaw4_CodeDelta (a0 : Value) (a1 : Value) (a2 : Value) (a3 : Value) (a4 : Value) (a5 : Value) (w : World) (R : Ending → World → Prop) : Prop :=
  xE Tryd.prog (sCall 20 #[a0, (.int .i64 1), (.int .i64 8)]) w fun v37_1 w2 =>
  xE Tryd.prog (sCall 20 #[a1, v37_1, (.int .i64 8)]) w2 fun v40_3 w4 =>
  xE Tryd.prog (sCall 12 #[v37_1, v40_3]) w4 fun v44_5 w6 =>
  xP Tryd.prog (sExtract v44_5 0) fun v45_7 =>
  xP Tryd.prog (sExtract v44_5 1) fun v46_8 =>
  xJoin (fun J9 =>
    xR Tryd.prog (sEq .eql 22 true v45_7 (.pointer none)) w6 fun v48_10 =>
    xIf v48_10 (
    J9 [(.bool true)] w6) (
    xR Tryd.prog (sEq .neq 24 true v46_8 (.nilIface)) w6 fun v51_11 =>
    J9 [v51_11] w6)) fun vs12 _ w14 =>
  xIf (vs12.getD 0 undef) (
    R (.returned (.bool false)) w14) (
    xE Tryd.prog (sCall 20 #[a2, (.int .i64 1), (.int .i64 12)]) w14 fun v55_15 w16 =>
  xE Tryd.prog (sCall 21 #[v37_1, v55_15, a4]) w16 fun v57_17 w18 =>
  xP Tryd.prog (sBin .sub 3 v37_1 (.int .i64 1)) fun v60_19 =>
  xE Tryd.prog (sCall 20 #[a3, (.int .i64 0), v60_19]) w18 fun v61_20 w21 =>
  xP Tryd.prog (sIA 29 v57_17 v61_20) fun v64_22 =>
  xR Tryd.prog (sLoad 32 v64_22) w21 fun v65_23 =>
  xE Tryd.prog (sBuildSlice 32 0 #[]) w21 fun v66_24 w25 =>
  xE Tryd.prog (sB .append #[32, 32] #[v66_24, v65_23]) w25 fun v68_26 w27 =>
  xE Tryd.prog (sB .copy #[32, 32] #[v68_26, a5]) w27 fun _ w29 =>
  xE Tryd.prog (sCall 14 #[v45_7, v57_17]) w29 fun v75_30 w31 =>
  xP Tryd.prog (sExtract v75_30 0) fun v76_32 =>
  xP Tryd.prog (sExtract v75_30 1) fun v77_33 =>
  xE Tryd.prog (sBuildSlice 29 0 #[]) w31 fun v78_34 w35 =>
  xE Tryd.prog (sB .append #[29, 29] #[v78_34, v57_17]) w35 fun v80_36 w37 =>
  xP Tryd.prog (sIA 29 v80_36 v61_20) fun v84_38 =>
  xE Tryd.prog (sStore 32 v84_38 v68_26) w37 fun _ w39 =>
  xE Tryd.prog (sCall 14 #[v45_7, v80_36]) w39 fun v88_40 w41 =>
  xP Tryd.prog (sExtract v88_40 0) fun v89_42 =>
  xP Tryd.prog (sExtract v88_40 1) fun v90_43 =>
  xJoin (fun J44 =>
    xR Tryd.prog (sEq .neq 24 true v77_33 (.nilIface)) w41 fun v92_45 =>
    xIf v92_45 (
    J44 [(.bool true)] w41) (
    xR Tryd.prog (sEq .neq 24 true v90_43 (.nilIface)) w41 fun v95_46 =>
    xIf v95_46 (
    J44 [(.bool true)] w41) (
    xP Tryd.prog (sB .len #[29] #[v76_32]) fun v99_47 =>
    xR Tryd.prog (sEq .neq 3 false v99_47 v40_3) w41 fun v101_48 =>
    xIf v101_48 (
    J44 [(.bool true)] w41) (
    xP Tryd.prog (sB .len #[29] #[v89_42]) fun v105_49 =>
    xR Tryd.prog (sEq .neq 3 false v105_49 v40_3) w41 fun v107_50 =>
    J44 [v107_50] w41)))) fun vs51 _ w53 =>
  xIf (vs51.getD 0 undef) (
    R (.returned (.bool false)) w53) (
    xP Tryd.prog (sB .len #[29] #[v76_32]) fun v110_54 =>
  xLoop [(.int .i64 0)] w53 fun J55 vs56 _ w58 =>
    xP Tryd.prog (sBin .lss 3 (vs56.getD 0 undef) v110_54) fun v112_59 =>
    xIf v112_59 (
      xE Tryd.prog (sCall 25 #[v45_7, (vs56.getD 0 undef), v61_20, v65_23, v68_26]) w58 fun v120_60 w61 =>
    xP Tryd.prog (sExtract v120_60 0) fun v121_62 =>
    xP Tryd.prog (sExtract v120_60 1) fun v122_63 =>
    xJoin (fun J64 =>
      xR Tryd.prog (sEq .neq 24 true v122_63 (.nilIface)) w61 fun v124_65 =>
      xIf v124_65 (
      J64 [(.bool true)] w61) (
      xP Tryd.prog (sB .len #[32] #[v121_62]) fun v127_66 =>
      xP Tryd.prog (sB .len #[32] #[v65_23]) fun v129_67 =>
      xR Tryd.prog (sEq .neq 3 false v127_66 v129_67) w61 fun v130_68 =>
      J64 [v130_68] w61)) fun vs69 _ w71 =>
    xIf (vs69.getD 0 undef) (
      R (.returned (.bool false)) w71) (
      xP Tryd.prog (sB .len #[32] #[v121_62]) fun v133_72 =>
    xLoop [(.int .i64 0)] w71 fun J73 vs74 _ w76 =>
      xP Tryd.prog (sBin .lss 3 (vs74.getD 0 undef) v133_72) fun v135_77 =>
      xIf v135_77 (
        xP Tryd.prog (sIA 29 v76_32 (vs56.getD 0 undef)) fun v139_78 =>
      xR Tryd.prog (sLoad 32 v139_78) (w76.drew) fun v140_79 =>
      xP Tryd.prog (sIA 32 v140_79 (vs74.getD 0 undef)) fun v142_80 =>
      xR Tryd.prog (sLoad 5 v142_80) (w76.drew) fun v143_81 =>
      xP Tryd.prog (sIA 32 v121_62 (vs74.getD 0 undef)) fun v146_82 =>
      xR Tryd.prog (sLoad 5 v146_82) (w76.drew) fun v147_83 =>
      xP Tryd.prog (sBin .xor 5 v143_81 v147_83) fun v148_84 =>
      xP Tryd.prog (sIA 29 v89_42 (vs56.getD 0 undef)) fun v151_85 =>
      xR Tryd.prog (sLoad 32 v151_85) (w76.drew) fun v152_86 =>
      xP Tryd.prog (sIA 32 v152_86 (vs74.getD 0 undef)) fun v154_87 =>
      xR Tryd.prog (sLoad 5 v154_87) (w76.drew) fun v155_88 =>
      xR Tryd.prog (sEq .neq 5 false v148_84 v155_88) (w76.drew) fun v156_89 =>
      xIf v156_89 (
        R (.returned (.bool false)) (w76.drew)) (
        xP Tryd.prog (sBin .add 3 (vs74.getD 0 undef) (.int .i64 1)) fun v157_90 =>
      J73 [v157_90] (w76.drew))) (
        xP Tryd.prog (sBin .add 3 (vs56.getD 0 undef) (.int .i64 1)) fun v158_91 =>
    J55 [v158_91] w76))) (
      xE Tryd.prog (sCall 25 #[v45_7, v40_3, v61_20, v65_23, v68_26]) w58 fun v165_92 w93 =>
  xP Tryd.prog (sExtract v165_92 0) fun _ =>
  xP Tryd.prog (sExtract v165_92 1) fun v167_95 =>
  xE Tryd.prog (sCall 25 #[v45_7, (.int .i64 0), v37_1, v65_23, v68_26]) w93 fun v173_96 w97 =>
  xP Tryd.prog (sExtract v173_96 0) fun _ =>
  xP Tryd.prog (sExtract v173_96 1) fun v175_99 =>
  xP Tryd.prog (sSlice 32 v68_26 (some (.int .i64 1)) none none) fun v181_100 =>
  xE Tryd.prog (sCall 25 #[v45_7, (.int .i64 0), v61_20, v65_23, v181_100]) w97 fun v182_101 w102 =>
  xP Tryd.prog (sExtract v182_101 0) fun _ =>
  xP Tryd.prog (sExtract v182_101 1) fun v184_104 =>
  xE Tryd.prog (sCall 13 #[v167_95]) w102 fun v186_105 w106 =>
  xR Tryd.prog (sEq .eql 27 true v186_105 (.int .i64 1)) w106 fun v187_107 =>
  xIf v187_107 (
  xE Tryd.prog (sCall 13 #[v175_99]) w106 fun v190_108 w109 =>
  xR Tryd.prog (sEq .eql 27 true v190_108 (.int .i64 1)) w109 fun v191_110 =>
  xIf v191_110 (
  xE Tryd.prog (sCall 13 #[v184_104]) w109 fun v195_111 w112 =>
  xR Tryd.prog (sEq .eql 27 true v195_111 (.int .i64 1)) w112 fun v196_113 =>
  xIf v196_113 (
  xE Tryd.prog (sCall 3 #[]) w112 fun v199_114 w115 =>
  R (.returned v199_114) w115) (
  R (.returned (.bool false)) w112)) (
  R (.returned (.bool false)) w109)) (
  R (.returned (.bool false)) w106))))
theorem C_stavelaw4_CodeDelta {a0 : Value} {a1 : Value} {a2 : Value} {a3 : Value} {a4 : Value} {a5 : Value} {w : World} {R : Ending → World → Prop} (h : S_stavelaw4_CodeDelta a0 a1 a2 a3 a4 a5 w R) : Calls Tryd.prog 10 #[a0, a1, a2, a3, a4, a5] w R :=
  funcVC_sound (an := A_stavelaw4_CodeDelta) (args := [a0, a1, a2, a3, a4, a5]) (k := 6) Tryd.func10 (by kernel_rfl) rfl
    (Eq.mp (show S_stavelaw4_CodeDelta a0 a1 a2 a3 a4 a5 w R = funcVC Tryd.prog Tryd.f10 A_stavelaw4_CodeDelta [a0, a1, a2, a3, a4, a5] w R by kernel_rfl) h)

/-- stave/stavelaw4.CodeFew -/
def A_stavelaw4_CodeFew : Ann := (.seq .nil (.seq .nil (.seq .nil (.seq .nil (.seq (.join [52] .nil .nil) (.seq .nil (.seq (.join [70] .nil .nil) (.seq .nil (.seq .nil (.seq (.seq .nil (.one (.loop [20, 21] .nil))) .nil))))))))))
def S_stavelaw4_CodeFew (a0 : Value) (a1 : Value) (a2 : Value) (a3 : Value) (a4 : Value) (a5 : Value) (w : World) (R : Ending → World → Prop) : Prop :=
  xE Tryd.prog (sCall 20 #[a0, (.int .i64 2), (.int .i64 8)]) w fun v37_1 w2 =>
  xE Tryd.prog (sCall 20 #[a1, v37_1, (.int .i64 8)]) w2 fun v40_3 w4 =>
  xE Tryd.prog (sCall 12 #[v37_1, v40_3]) w4 fun v44_5 w6 =>
  xP Tryd.prog (sExtract v44_5 0) fun v45_7 =>
  xP Tryd.prog (sExtract v44_5 1) fun v46_8 =>
  xJoin (fun J9 =>
    xR Tryd.prog (sEq .eql 22 true v45_7 (.pointer none)) w6 fun v48_10 =>
    xIf v48_10 (
    J9 [(.bool true)] w6) (
    xR Tryd.prog (sEq .neq 24 true v46_8 (.nilIface)) w6 fun v51_11 =>
    J9 [v51_11] w6)) fun vs12 _ w14 =>
  xIf (vs12.getD 0 undef) (
    R (.returned (.bool false)) w14) (
    xE Tryd.prog (sCall 20 #[a2, (.int .i64 1), (.int .i64 9)]) w14 fun v57_15 w16 =>
  xE Tryd.prog (sCall 21 #[v37_1, v57_15, a5]) w16 fun v59_17 w18 =>
  xE Tryd.prog (sCall 14 #[v45_7, v59_17]) w18 fun v60_19 w20 =>
  xP Tryd.prog (sExtract v60_19 0) fun v61_21 =>
  xP Tryd.prog (sExtract v60_19 1) fun v62_22 =>
  xJoin (fun J23 =>
    xR Tryd.prog (sEq .neq 24 true v62_22 (.nilIface)) w20 fun v64_24 =>
    xIf v64_24 (
    J23 [(.bool true)] w20) (
    xP Tryd.prog (sB .len #[29] #[v61_21]) fun v67_25 =>
    xR Tryd.prog (sEq .neq 3 false v67_25 v40_3) w20 fun v69_26 =>
    J23 [v69_26] w20)) fun vs27 _ w29 =>
  xIf (vs27.getD 0 undef) (
    R (.returned (.bool false)) w29) (
    xP Tryd.prog (sBin .sub 3 v40_3 (.int .i64 1)) fun v73_30 =>
  xE Tryd.prog (sCall 20 #[a3, (.int .i64 0), v73_30]) w29 fun v74_31 w32 =>
  xLoop [(.slice none 0 0), (.int .i64 0)] w32 fun J33 vs34 _ w36 =>
    xE Tryd.prog (sCall 20 #[a4, (.int .i64 1), (.int .i64 9)]) w36 fun v77_37 w38 =>
    xP Tryd.prog (sBin .lss 3 (vs34.getD 1 undef) v77_37) fun v78_39 =>
    xIf v78_39 (
      xP Tryd.prog (sIA 29 v61_21 v74_31) fun v85_40 =>
    xR Tryd.prog (sLoad 32 v85_40) w38 fun v86_41 =>
    xP Tryd.prog (sBuild 35 #[(0, v74_31), (1, v86_41)]) fun v87_42 =>
    xE Tryd.prog (sBuildSlice 48 1 #[(0, v87_42)]) w38 fun v88_43 w44 =>
    xE Tryd.prog (sB .append #[48, 48] #[(vs34.getD 0 undef), v88_43]) w44 fun v89_45 w46 =>
    xP Tryd.prog (sBin .add 3 (vs34.getD 1 undef) (.int .i64 1)) fun v80_47 =>
    J33 [v89_45, v80_47] w46) (
      xE Tryd.prog (sCall 15 #[v45_7, (vs34.getD 0 undef)]) w38 fun v93_48 w49 =>
  xP Tryd.prog (sExtract v93_48 0) fun _ =>
  xP Tryd.prog (sExtract v93_48 1) fun v95_51 =>
  xP Tryd.prog (sIA 29 v61_21 (.int .i64 0)) fun v101_52 =>
  xR Tryd.prog (sLoad 32 v101_52) w49 fun v102_53 =>
  xP Tryd.prog (sBuild 35 #[(0, v40_3), (1, v102_53)]) fun v103_54 =>
  xE Tryd.prog (sBuildSlice 48 1 #[(0, v103_54)]) w49 fun v104_55 w56 =>
  xE Tryd.prog (sB .append #[48, 48] #[(vs34.getD 0 undef), v104_55]) w56 fun v105_57 w58 =>
  xE Tryd.prog (sCall 15 #[v45_7, v105_57]) w58 fun v106_59 w60 =>
  xP Tryd.prog (sExtract v106_59 0) fun _ =>
  xP Tryd.prog (sExtract v106_59 1) fun v108_62 =>
  xP Tryd.prog (sIA 29 v61_21 (.int .i64 0)) fun v113_63 =>
  xR Tryd.prog (sLoad 32 v113_63) w60 fun v114_64 =>
  xP Tryd.prog (sSlice 32 v114_64 (some (.int .i64 1)) none none) fun v115_65 =>
  xP Tryd.prog (sBuild 35 #[(0, (.int .i64 0)), (1, v115_65)]) fun v116_66 =>
  xE Tryd.prog (sBuildSlice 48 1 #[(0, v116_66)]) w60 fun v117_67 w68 =>
  xE Tryd.prog (sB .append #[48, 48] #[(vs34.getD 0 undef), v117_67]) w68 fun v118_69 w70 =>
  xE Tryd.prog (sCall 15 #[v45_7, v118_69]) w70 fun v119_71 w72 =>
  xP Tryd.prog (sExtract v119_71 0) fun _ =>
  xP Tryd.prog (sExtract v119_71 1) fun v121_74 =>
  xE Tryd.prog (sCall 26 #[v108_62]) w72 fun v124_75 w76 =>
  xP Tryd.prog (sExtract v124_75 0) fun _ =>
  xP Tryd.prog (sExtract v124_75 1) fun v126_78 =>
  xP Tryd.prog (sExtract v124_75 2) fun _ =>
  xE Tryd.prog (sCall 26 #[v121_74]) w76 fun v130_80 w81 =>
  xP Tryd.prog (sExtract v130_80 0) fun _ =>
  xP Tryd.prog (sExtract v130_80 1) fun v132_83 =>
  xP Tryd.prog (sExtract v130_80 2) fun _ =>
  xE Tryd.prog (sCall 23 #[v45_7, v40_3, (vs34.getD 0 undef)]) w81 fun v138_85 w86 =>
  xP Tryd.prog (sExtract v138_85 0) fun _ =>
  xP Tryd.prog (sExtract v138_85 1) fun v140_88 =>
  xE Tryd.prog (sCall 13 #[v95_51]) w86 fun v142_89 w90 =>
  xR Tryd.prog (sEq .eql 27 true v142_89 (.int .i64 3)) w90 fun v143_91 =>
  xIf v143_91 (
  xE Tryd.prog (sCall 13 #[v108_62]) w90 fun v146_92 w93 =>
  xR Tryd.prog (sEq .eql 27 true v146_92 (.int .i64 2)) w93 fun v147_94 =>
  xIf v147_94 (
  xP Tryd.prog (sB .len #[48] #[(vs34.getD 0 undef)]) fun v152_95 =>
  xR Tryd.prog (sEq .eql 3 false v126_78 v152_95) w93 fun v153_96 =>
  xIf v153_96 (
  xE Tryd.prog (sCall 13 #[v121_74]) w93 fun v157_97 w98 =>
  xR Tryd.prog (sEq .eql 27 true v157_97 (.int .i64 2)) w98 fun v158_99 =>
  xIf v158_99 (
  xP Tryd.prog (sB .len #[48] #[(vs34.getD 0 undef)]) fun v163_100 =>
  xR Tryd.prog (sEq .eql 3 false v132_83 v163_100) w98 fun v164_101 =>
  xIf v164_101 (
  xE Tryd.prog (sCall 13 #[v140_88]) w98 fun v168_102 w103 =>
  xR Tryd.prog (sEq .eql 27 true v168_102 (.int .i64 1)) w103 fun v169_104 =>
  xIf v169_104 (
  xE Tryd.prog (sCall 3 #[]) w103 fun v172_105 w106 =>
  R (.returned v172_105) w106) (
  R (.returned (.bool false)) w103)) (
  R (.returned (.bool false)) w98)) (
  R (.returned (.bool false)) w98)) (
  R (.returned (.bool false)) w93)) (
  R (.returned (.bool false)) w93)) (
  R (.returned (.bool false)) w90))))
theorem C_stavelaw4_CodeFew {a0 : Value} {a1 : Value} {a2 : Value} {a3 : Value} {a4 : Value} {a5 : Value} {w : World} {R : Ending → World → Prop} (h : S_stavelaw4_CodeFew a0 a1 a2 a3 a4 a5 w R) : Calls Tryd.prog 11 #[a0, a1, a2, a3, a4, a5] w R :=
  funcVC_sound (an := A_stavelaw4_CodeFew) (args := [a0, a1, a2, a3, a4, a5]) (k := 6) Tryd.func11 (by kernel_rfl) rfl
    (Eq.mp (show S_stavelaw4_CodeFew a0 a1 a2 a3 a4 a5 w R = funcVC Tryd.prog Tryd.f11 A_stavelaw4_CodeFew [a0, a1, a2, a3, a4, a5] w R by kernel_rfl) h)

/-- stave/code.New -/
def A_code_New : Ann := (.seq .nil (.seq (.join [20] .nil .nil) (.seq .nil (.seq (.seq .nil (.one (.loop [28] (.seq .nil (.seq .nil (.seq (.one (.seq .nil (.seq .nil (.seq (.seq .nil (.one (.loop [35] (.seq .nil (.seq .nil (.join [] .nil .nil)))))) .nil)))) .nil)))))) .nil))))
def S_code_New (a0 : Value) (a1 : Value) (w : World) (R : Ending → World → Prop) : Prop :=
  xJoin (fun J1 =>
    xP Tryd.prog (sBin .lss 3 a0 (.int .i64 1)) fun v11_2 =>
    xIf v11_2 (
    J1 [(.bool true)] w) (
    xP Tryd.prog (sBin .gtr 3 a0 a1) fun v15_3 =>
    xIf v15_3 (
    J1 [(.bool true)] w) (
    xP Tryd.prog (sBin .gtr 3 a1 (.int .i64 8)) fun v19_4 =>
    J1 [v19_4] w))) fun vs5 _ w7 =>
  xIf (vs5.getD 0 undef) (
    xP Tryd.prog (sIface 27 (.int .i64 1)) fun v21_8 =>
    xE Tryd.prog (sCall 27 #[(.string (ByteArray.mk #[99, 111, 100, 101, 46, 78, 101, 119])), (.int .i64 0), v21_8]) w7 fun v22_9 w10 =>
    R (.returned (.tuple #[(.pointer none), v22_9])) w10) (
    xE Tryd.prog (sCall 28 #[]) w7 fun v24_11 w12 =>
  xP Tryd.prog (sBuild 66 #[(0, a0), (1, v24_11)]) fun v25_13 =>
  xE Tryd.prog (sBox 66 v25_13) w12 fun v26_14 w15 =>
  xLoop [(.int .i64 0)] w15 fun J16 vs17 _ w19 =>
    xP Tryd.prog (sBin .lss 3 (vs17.getD 0 undef) a1) fun v29_20 =>
    xIf v29_20 (
      xE Tryd.prog (sMakeSlice 32 a0 a0) w19 fun v32_21 w22 =>
    xP Tryd.prog (sB .len #[32] #[v32_21]) fun v34_23 =>
    xLoop [(.int .i64 0)] w22 fun J24 vs25 _ w27 =>
      xP Tryd.prog (sBin .lss 3 (vs25.getD 0 undef) v34_23) fun v36_28 =>
      xIf v36_28 (
        xJoin (fun J29 =>
        xP Tryd.prog (sBin .geq 3 (vs17.getD 0 undef) a0) fun v41_30 =>
        xIf v41_30 (
          xP Tryd.prog (sNil v26_14) fun v45_31 =>
          xP Tryd.prog (sFA 66 v45_31 1) fun v46_32 =>
          xR Tryd.prog (sLoad 63 v46_32) w27 fun v47_33 =>
          xP Tryd.prog (sBin .xor 3 (vs17.getD 0 undef) (vs25.getD 0 undef)) fun v50_34 =>
          xP Tryd.prog (sConv 3 5 v50_34) fun v51_35 =>
          xE Tryd.prog (sCall 29 #[v47_33, v51_35]) w27 fun v52_36 w37 =>
          xP Tryd.prog (sIA 32 v32_21 (vs25.getD 0 undef)) fun v53_38 =>
          xE Tryd.prog (sStore 5 v53_38 v52_36) w37 fun _ w39 =>
          J29 [] w39) (
          xR Tryd.prog (sEq .eql 3 false (vs17.getD 0 undef) (vs25.getD 0 undef)) w27 fun v57_40 =>
          xIf v57_40 (
            xP Tryd.prog (sIA 32 v32_21 (vs25.getD 0 undef)) fun v60_41 =>
            xE Tryd.prog (sStore 5 v60_41 (.int .u8 1)) w27 fun _ w42 =>
            J29 [] w42) (
            J29 [] w27))) fun _ _ w45 =>
      xP Tryd.prog (sBin .add 3 (vs25.getD 0 undef) (.int .i64 1)) fun v61_46 =>
      J24 [v61_46] w45) (
        xP Tryd.prog (sNil v26_14) fun v64_47 =>
    xP Tryd.prog (sFA 66 v64_47 2) fun v65_48 =>
    xR Tryd.prog (sLoad 29 v65_48) w27 fun v66_49 =>
    xE Tryd.prog (sBuildSlice 29 1 #[(0, v32_21)]) w27 fun v68_50 w51 =>
    xE Tryd.prog (sB .append #[29, 29] #[v66_49, v68_50]) w51 fun v69_52 w53 =>
    xP Tryd.prog (sNil v26_14) fun v70_54 =>
    xP Tryd.prog (sFA 66 v70_54 2) fun v71_55 =>
    xE Tryd.prog (sStore 29 v71_55 v69_52) w53 fun _ w56 =>
    xP Tryd.prog (sBin .add 3 (vs17.getD 0 undef) (.int .i64 1)) fun v72_57 =>
    J16 [v72_57] w56)) (
      R (.returned (.tuple #[v26_14, (.nilIface)])) w19))
theorem C_code_New {a0 : Value} {a1 : Value} {w : World} {R : Ending → World → Prop} (h : S_code_New a0 a1 w R) : Calls Tryd.prog 12 #[a0, a1] w R :=
  funcVC_sound (an := A_code_New) (args := [a0, a1]) (k := 2) Tryd.func12 (by kernel_rfl) rfl
    (Eq.mp (show S_code_New a0 a1 w R = funcVC Tryd.prog Tryd.f12 A_code_New [a0, a1] w R by kernel_rfl) h)

/-- stave/fault.Kind -/
def A_fault_Kind : Ann := .nil
def S_fault_Kind (a0 : Value) (w : World) (R : Ending → World → Prop) : Prop :=
  xE Tryd.prog (sAlloc 27) w fun v3_1 w2 =>
  xP Tryd.prog (sIface 68 v3_1) fun v6_3 =>
  xE Tryd.prog (sCall 30 #[a0, v6_3]) w2 fun v7_4 w5 =>
  xIf v7_4 (
    xR Tryd.prog (sLoad 27 v3_1) w5 fun v8_6 =>
    R (.returned v8_6) w5) (
    xP Tryd.prog (sIface 27 (.int .i64 6)) fun v11_7 =>
    xE Tryd.prog (sCall 31 #[a0, v11_7]) w5 fun v12_8 w9 =>
    xIf v12_8 (
      R (.returned (.int .i64 6)) w9) (
      R (.returned (.int .i64 0)) w9))
theorem C_fault_Kind {a0 : Value} {w : World} {R : Ending → World → Prop} (h : S_fault_Kind a0 w R) : Calls Tryd.prog 13 #[a0] w R :=
  funcVC_sound (an := A_fault_Kind) (args := [a0]) (k := 1) Tryd.func13 (by kernel_rfl) rfl
    (Eq.mp (show S_fault_Kind a0 w R = funcVC Tryd.prog Tryd.f13 A_fault_Kind [a0] w R by kernel_rfl) h)

/-- (*stave/code.Code).Encode -/
def A_code_Code_Encode : Ann := (.seq .nil (.seq (.join [20] (.draw (.pre [0, 1, 2, 3, 4, 5, 6, 7, 8, 9, 10, 11] .nil) [0, 1, 0, 4, 12, 28, 63, 127, 255, 255, 1023, 2047]) .nil) (.seq .nil (.seq (.seq .nil (.one (.loop [6, 28] .nil))) .nil))))
def S_code_Code_Encode (a0 : Value) (a1 : Value) (w : World) (R : Ending → World → Prop) : Prop :=
  xE Tryd.prog (sBox 29 a1) w fun v3_1 w2 =>
  xJoin (fun J3 =>
    xR Tryd.prog (sLoad 29 v3_1) (w2.drew) fun v9_4 =>
    xP Tryd.prog (sB .len #[29] #[v9_4]) fun v10_5 =>
    xP Tryd.prog (sNil a0) fun v12_6 =>
    xP Tryd.prog (sFA 66 v12_6 0) fun v13_7 =>
    xR Tryd.prog (sLoad 3 v13_7) (w2.drew) fun v14_8 =>
    xR Tryd.prog (sEq .neq 3 false v10_5 v14_8) (w2.drew) fun v15_9 =>
    xIf v15_9 (
    J3 [(.bool true)] (w2.drew)) (
    xR Tryd.prog (sLoad 29 v3_1) (w2.drew) fun v17_10 =>
    xP Tryd.prog (sFunc (.func 33) #[] #[v3_1]) fun v18_11 =>
    xE Tryd.prog (sCall 32 #[v17_10, v18_11]) (w2.drew) fun v19_12 w13 =>
    J3 [v19_12] w13)) fun vs14 _ w16 =>
  xIf (vs14.getD 0 undef) (
    xP Tryd.prog (sIface 27 (.int .i64 1)) fun v21_17 =>
    xE Tryd.prog (sCall 27 #[(.string (ByteArray.mk #[99, 111, 100, 101, 46, 69, 110, 99, 111, 100, 101])), (.int .i64 0), v21_17]) w16 fun v22_18 w19 =>
    R (.returned (.tuple #[(.slice none 0 0), v22_18])) w19) (
    xP Tryd.prog (sNil a0) fun v24_20 =>
  xP Tryd.prog (sFA 66 v24_20 2) fun v25_21 =>
  xR Tryd.prog (sLoad 29 v25_21) w16 fun v26_22 =>
  xP Tryd.prog (sB .len #[29] #[v26_22]) fun v27_23 =>
  xLoop [(.slice none 0 0), (.int .i64 0)] w16 fun J24 vs25 _ w27 =>
    xP Tryd.prog (sBin .lss 3 (vs25.getD 1 undef) v27_23) fun v29_28 =>
    xIf v29_28 (
      xP Tryd.prog (sIA 29 v26_22 (vs25.getD 1 undef)) fun v30_29 =>
    xR Tryd.prog (sLoad 32 v30_29) w27 fun v31_30 =>
    xR Tryd.prog (sLoad 29 v3_1) w27 fun v35_31 =>
    xE Tryd.prog (sCall 34 #[a0, v31_30, v35_31]) w27 fun v36_32 w33 =>
    xE Tryd.prog (sBuildSlice 29 1 #[(0, v36_32)]) w33 fun v37_34 w35 =>
    xE Tryd.prog (sB .append #[29, 29] #[(vs25.getD 0 undef), v37_34]) w35 fun v38_36 w37 =>
    xP Tryd.prog (sBin .add 3 (vs25.getD 1 undef) (.int .i64 1)) fun v39_38 =>
    J24 [v38_36, v39_38] w37) (
      R (.returned (.tuple #[(vs25.getD 0 undef), (.nilIface)])) w27))
theorem C_code_Code_Encode {a0 : Value} {a1 : Value} {w : World} {R : Ending → World → Prop} (h : S_code_Code_Encode a0 a1 w R) : Calls Tryd.prog 14 #[a0, a1] w R :=
  funcVC_sound (an := A_code_Code_Encode) (args := [a0, a1]) (k := 2) Tryd.func14 (by kernel_rfl) rfl
    (Eq.mp (show S_code_Code_Encode a0 a1 w R = funcVC Tryd.prog Tryd.f14 A_code_Code_Encode [a0, a1] w R by kernel_rfl) h)

/-- (*stave/code.Code).Decode -/
def A_code_Code_Decode : Ann := (.seq .nil (.seq (.seq .nil (.one (.loop [11] (.seq .nil (.seq .nil (.seq (.one (.seq .nil (.join [39] (.draw (.pre [0, 1, 2, 3, 4, 5, 6, 7, 8, 9, 10, 11, 12, 13, 14, 15, 16, 17, 18, 19, 20, 21, 22, 23] .nil) [0, 1, 3, 7, 15, 31, 15, 79, 207, 463, 975, 2047, 4095, 8191, 16383, 32767, 65535, 16383, 147455, 409599, 933887, 1982463, 4194303, 8388607]) .nil))) .nil)))))) .nil))
def S_code_Code_Decode (a0 : Value) (a1 : Value) (w : World) (R : Ending → World → Prop) : Prop :=
  xP Tryd.prog (sB .len #[48] #[a1]) fun v10_1 =>
  xLoop [(.int .i64 0)] w fun J2 vs3 _ w5 =>
    xP Tryd.prog (sBin .lss 3 (vs3.getD 0 undef) v10_1) fun v12_6 =>
    xIf v12_6 (
      xP Tryd.prog (sIA 48 a1 (vs3.getD 0 undef)) fun v14_7 =>
    xR Tryd.prog (sLoad 35 v14_7) w5 fun v15_8 =>
    xE Tryd.prog (sAlloc 35) w5 fun v7_9 w10 =>
    xE Tryd.prog (sStore 35 v7_9 v15_8) w10 fun _ w11 =>
    xJoin (fun J12 =>
      xP Tryd.prog (sFA 35 v7_9 0) fun v16_13 =>
      xR Tryd.prog (sLoad 3 v16_13) (w11.drew) fun v17_14 =>
      xP Tryd.prog (sBin .lss 3 v17_14 (.int .i64 0)) fun v18_15 =>
      xIf v18_15 (
      J12 [(.bool true)] (w11.drew)) (
      xP Tryd.prog (sFA 35 v7_9 0) fun v20_16 =>
      xR Tryd.prog (sLoad 3 v20_16) (w11.drew) fun v21_17 =>
      xP Tryd.prog (sNil a0) fun v23_18 =>
      xP Tryd.prog (sFA 66 v23_18 2) fun v24_19 =>
      xR Tryd.prog (sLoad 29 v24_19) (w11.drew) fun v25_20 =>
      xP Tryd.prog (sB .len #[29] #[v25_20]) fun v26_21 =>
      xP Tryd.prog (sBin .geq 3 v21_17 v26_21) fun v27_22 =>
      xIf v27_22 (
      J12 [(.bool true)] (w11.drew)) (
      xP Tryd.prog (sFA 35 v7_9 1) fun v30_23 =>
      xR Tryd.prog (sLoad 32 v30_23) (w11.drew) fun v31_24 =>
      xP Tryd.prog (sB .len #[32] #[v31_24]) fun v32_25 =>
      xP Tryd.prog (sIA 48 a1 (.int .i64 0)) fun v34_26 =>
      xP Tryd.prog (sFA 35 v34_26 1) fun v35_27 =>
      xR Tryd.prog (sLoad 32 v35_27) (w11.drew) fun v36_28 =>
      xP Tryd.prog (sB .len #[32] #[v36_28]) fun v37_29 =>
      xR Tryd.prog (sEq .neq 3 false v32_25 v37_29) (w11.drew) fun v38_30 =>
      J12 [v38_30] (w11.drew)))) fun vs31 _ w33 =>
    xIf (vs31.getD 0 undef) (
      xP Tryd.prog (sIface 27 (.int .i64 2)) fun v41_34 =>
      xE Tryd.prog (sCall 27 #[(.string (ByteArray.mk #[99, 111, 100, 101, 46, 68, 101, 99, 111, 100, 101])), (vs3.getD 0 undef), v41_34]) w33 fun v42_35 w36 =>
      R (.returned (.tuple #[(.slice none 0 0), v42_35])) w36) (
      xP Tryd.prog (sBin .add 3 (vs3.getD 0 undef) (.int .i64 1)) fun v43_37 =>
    J2 [v43_37] w33)) (
      xE Tryd.prog (sCall 35 #[a0, a1]) w5 fun v46_38 w39 =>
  xP Tryd.prog (sB .len #[48] #[v46_38]) fun v48_40 =>
  xP Tryd.prog (sNil a0) fun v50_41 =>
  xP Tryd.prog (sFA 66 v50_41 0) fun v51_42 =>
  xR Tryd.prog (sLoad 3 v51_42) w39 fun v52_43 =>
  xP Tryd.prog (sBin .lss 3 v48_40 v52_43) fun v53_44 =>
  xIf v53_44 (
    xP Tryd.prog (sB .len #[48] #[v46_38]) fun v55_45 =>
    xP Tryd.prog (sIface 27 (.int .i64 3)) fun v56_46 =>
    xE Tryd.prog (sCall 27 #[(.string (ByteArray.mk #[99, 111, 100, 101, 46, 68, 101, 99, 111, 100, 101])), v55_45, v56_46]) w39 fun v57_47 w48 =>
    R (.returned (.tuple #[(.slice none 0 0), v57_47])) w48) (
    xE Tryd.prog (sCall 36 #[a0, v46_38]) w39 fun v60_49 w50 =>
  R (.returned (.tuple #[v60_49, (.nilIface)])) w50))
theorem C_code_Code_Decode {a0 : Value} {a1 : Value} {w : World} {R : Ending → World → Prop} (h : S_code_Code_Decode a0 a1 w R) : Calls Tryd.prog 15 #[a0, a1] w R :=
  funcVC_sound (an := A_code_Code_Decode) (args := [a0, a1]) (k := 2) Tryd.func15 (by kernel_rfl) rfl
    (Eq.mp (show S_code_Code_Decode a0 a1 w R = funcVC Tryd.prog Tryd.f15 A_code_Code_Decode [a0, a1] w R by kernel_rfl) h)

/-- stave/stavelaw4.same -/
def A_stavelaw4_same : Ann := (.seq .nil (.seq .nil (.seq (.seq .nil (.one (.loop [13] (.seq .nil (.seq .nil (.seq (.one (.seq .nil (.seq (.draw (.pre [0, 1, 2, 3, 4, 5, 6, 7, 8, 9] .nil) [0, 0, 3, 7, 0, 0, 48, 112, 255, 511]) .nil))) .nil)))))) .nil)))
def S_stavelaw4_same (a0 : Value) (a1 : Value) (w : World) (R : Ending → World → Prop) : Prop :=
  xP Tryd.prog (sB .len #[29] #[a0]) fun v7_1 =>
  xP Tryd.prog (sB .len #[29] #[a1]) fun v9_2 =>
  xR Tryd.prog (sEq .neq 3 false v7_1 v9_2) w fun v10_3 =>
  xIf v10_3 (
    R (.returned (.bool false)) w) (
    xP Tryd.prog (sB .len #[29] #[a0]) fun v12_4 =>
  xLoop [(.int .i64 0)] w fun J5 vs6 _ w8 =>
    xP Tryd.prog (sBin .lss 3 (vs6.getD 0 undef) v12_4) fun v14_9 =>
    xIf v14_9 (
      xP Tryd.prog (sIA 29 a0 (vs6.getD 0 undef)) fun v18_10 =>
    xR Tryd.prog (sLoad 32 v18_10) (w8.drew) fun v19_11 =>
    xP Tryd.prog (sIA 29 a1 (vs6.getD 0 undef)) fun v22_12 =>
    xR Tryd.prog (sLoad 32 v22_12) (w8.drew) fun v23_13 =>
    xE Tryd.prog (sCall 24 #[v19_11, v23_13]) (w8.drew) fun v24_14 w15 =>
    xP Tryd.prog (sUn .not v24_14) fun v25_16 =>
    xIf v25_16 (
      R (.returned (.bool false)) w15) (
      xP Tryd.prog (sBin .add 3 (vs6.getD 0 undef) (.int .i64 1)) fun v26_17 =>
    J5 [v26_17] w15)) (
      R (.returned (.bool true)) w8))
theorem C_stavelaw4_same {a0 : Value} {a1 : Value} {w : World} {R : Ending → World → Prop} (h : S_stavelaw4_same a0 a1 w R) : Calls Tryd.prog 16 #[a0, a1] w R :=
  funcVC_sound (an := A_stavelaw4_same) (args := [a0, a1]) (k := 2) Tryd.func16 (by kernel_rfl) rfl
    (Eq.mp (show S_stavelaw4_same a0 a1 w R = funcVC Tryd.prog Tryd.f16 A_stavelaw4_same [a0, a1] w R by kernel_rfl) h)

/-- stave/staveref1.Inv -/
def A_staveref1_Inv : Ann := (.seq .nil (.seq (.seq .nil (.one (.loop [3] .nil))) .nil))
def S_staveref1_Inv (a0 : Value) (w : World) (R : Ending → World → Prop) : Prop :=
  xLoop [(.int .i64 1)] w fun J1 vs2 _ w4 =>
    xP Tryd.prog (sBin .lss 3 (vs2.getD 0 undef) (.int .i64 256)) fun v5_5 =>
    xIf v5_5 (
      xP Tryd.prog (sConv 3 5 (vs2.getD 0 undef)) fun v10_6 =>
    xE Tryd.prog (sCall 18 #[a0, v10_6]) w4 fun v11_7 w8 =>
    xR Tryd.prog (sEq .eql 5 true v11_7 (.int .u8 1)) w8 fun v12_9 =>
    xIf v12_9 (
      xP Tryd.prog (sConv 3 5 (vs2.getD 0 undef)) fun v14_10 =>
      R (.returned v14_10) w8) (
      xP Tryd.prog (sBin .add 3 (vs2.getD 0 undef) (.int .i64 1)) fun v7_11 =>
    J1 [v7_11] w8)) (
      R (.returned (.int .u8 0)) w4)
theorem C_staveref1_Inv {a0 : Value} {w : World} {R : Ending → World → Prop} (h : S_staveref1_Inv a0 w R) : Calls Tryd.prog 17 #[a0] w R :=
  funcVC_sound (an := A_staveref1_Inv) (args := [a0]) (k := 1) Tryd.func17 (by kernel_rfl) rfl
    (Eq.mp (show S_staveref1_Inv a0 w R = funcVC Tryd.prog Tryd.f17 A_staveref1_Inv [a0] w R by kernel_rfl) h)

/-- stave/staveref1.Mul -/
def A_staveref1_Mul : Ann := (.seq .nil (.seq .nil (.seq (.seq .nil (.one (.loop [5, 6, 7] (.seq .nil (.join [5, 6] (.one (.join [6] .nil .nil)) .nil))))) .nil)))
def S_staveref1_Mul (a0 : Value) (a1 : Value) (w : World) (R : Ending → World → Prop) : Prop :=
  xP Tryd.prog (sConv 5 3 a0) fun v9_1 =>
  xP Tryd.prog (sConv 5 3 a1) fun v11_2 =>
  xLoop [v9_1, (.int .i64 0), v11_2] w fun J3 vs4 _ w6 =>
    xP Tryd.prog (sBin .gtr 3 (vs4.getD 2 undef) (.int .i64 0)) fun v13_7 =>
    xIf v13_7 (
      xJoin (fun J8 =>
      xJoin (fun J9 =>
        xP Tryd.prog (sBin .and 3 (vs4.getD 2 undef) (.int .i64 1)) fun v17_10 =>
        xR Tryd.prog (sEq .eql 3 true v17_10 (.int .i64 1)) w6 fun v18_11 =>
        xIf v18_11 (
          xP Tryd.prog (sBin .xor 3 (vs4.getD 1 undef) (vs4.getD 0 undef)) fun v21_12 =>
          J9 [v21_12] w6) (
          J9 [(vs4.getD 1 undef)] w6)) fun vs13 _ w15 =>
      xP Tryd.prog (sBin .shl 3 (vs4.getD 0 undef) (.int .u64 1)) fun v23_16 =>
      xP Tryd.prog (sBin .gtr 3 v23_16 (.int .i64 255)) fun v25_17 =>
      xIf v25_17 (
        xP Tryd.prog (sBin .xor 3 v23_16 (.int .i64 285)) fun v27_18 =>
        J8 [v27_18, (vs13.getD 0 undef)] w15) (
        J8 [v23_16, (vs13.getD 0 undef)] w15)) fun vs19 _ w21 =>
    xP Tryd.prog (sBin .shr 3 (vs4.getD 2 undef) (.int .u64 1)) fun v15_22 =>
    J3 [(vs19.getD 0 undef), (vs19.getD 1 undef), v15_22] w21) (
      xP Tryd.prog (sConv 3 5 (vs4.getD 1 undef)) fun v29_23 =>
  R (.returned v29_23) w6)
theorem C_staveref1_Mul {a0 : Value} {a1 : Value} {w : World} {R : Ending → World → Prop} (h : S_staveref1_Mul a0 a1 w R) : Calls Tryd.prog 18 #[a0, a1] w R :=
  funcVC_sound (an := A_staveref1_Mul) (args := [a0, a1]) (k := 2) Tryd.func18 (by kernel_rfl) rfl
    (Eq.mp (show S_staveref1_Mul a0 a1 w R = funcVC Tryd.prog Tryd.f18 A_staveref1_Mul [a0, a1] w R by kernel_rfl) h)

/-- stave/staveref1.Encode -/
def A_staveref1_Encode : Ann := (.seq .nil (.seq (.join [24] .nil .nil) (.seq (.seq .nil (.one (.loop [8] (.seq .nil (.seq (.one (.seq (.draw (.pre [0, 1, 2, 3, 4, 5, 6, 7, 8, 9] .nil) [0, 0, 3, 7, 15, 0, 32, 96, 224, 511]) .nil)) .nil))))) (.seq .nil (.seq (.seq .nil (.one (.loop [9, 10] (.seq .nil (.seq (.one (.seq .nil (.seq (.seq .nil (.one (.loop [55] (.seq .nil (.seq .nil (.seq (.one (.seq .nil (.seq .nil (.one (.loop [62] (.seq .nil (.seq .nil (.seq (.one (.seq .nil (.draw (.pre [0, 1, 2, 3, 4, 5, 6, 7, 8, 9, 10, 11, 12, 13, 14, 15, 16, 17] .nil) [0, 0, 0, 0, 12, 28, 0, 0, 0, 384, 896, 0, 3968, 8064, 16320, 32764, 65535, 131071]))) .nil)))))))) .nil)))))) .nil))) .nil))))) .nil)))))
def S_staveref1_Encode (a0 : Value) (a1 : Value) (a2 : Value) (w : World) (R : Ending → World → Prop) : Prop :=
  xJoin (fun J1 =>
    xE Tryd.prog (sCall 37 #[a0, a1, (.int .i64 0)]) w fun v17_2 w3 =>
    xR Tryd.prog (sEq .eql 32 true v17_2 (.slice none 0 0)) w3 fun v18_4 =>
    xIf v18_4 (
    J1 [(.bool true)] w3) (
    xP Tryd.prog (sB .len #[29] #[a2]) fun v21_5 =>
    xR Tryd.prog (sEq .neq 3 false v21_5 a0) w3 fun v23_6 =>
    J1 [v23_6] w3)) fun vs7 _ w9 =>
  xIf (vs7.getD 0 undef) (
    R (.returned (.tuple #[(.slice none 0 0), (.int .i64 1)])) w9) (
    xLoop [(.int .i64 0)] w9 fun J10 vs11 _ w13 =>
    xP Tryd.prog (sBin .lss 3 (vs11.getD 0 undef) a0) fun v27_14 =>
    xIf v27_14 (
      xP Tryd.prog (sIA 29 a2 (vs11.getD 0 undef)) fun v32_15 =>
    xR Tryd.prog (sLoad 32 v32_15) (w13.drew) fun v33_16 =>
    xP Tryd.prog (sB .len #[32] #[v33_16]) fun v34_17 =>
    xP Tryd.prog (sIA 29 a2 (.int .i64 0)) fun v36_18 =>
    xR Tryd.prog (sLoad 32 v36_18) (w13.drew) fun v37_19 =>
    xP Tryd.prog (sB .len #[32] #[v37_19]) fun v38_20 =>
    xR Tryd.prog (sEq .neq 3 false v34_17 v38_20) (w13.drew) fun v39_21 =>
    xIf v39_21 (
      R (.returned (.tuple #[(.slice none 0 0), (.int .i64 1)])) (w13.drew)) (
      xP Tryd.prog (sBin .add 3 (vs11.getD 0 undef) (.int .i64 1)) fun v29_22 =>
    J10 [v29_22] (w13.drew))) (
      xLoop [(.slice none 0 0), (.int .i64 0)] w13 fun J23 vs24 _ w26 =>
    xP Tryd.prog (sBin .lss 3 (vs24.getD 1 undef) a1) fun v42_27 =>
    xIf v42_27 (
      xP Tryd.prog (sIA 29 a2 (.int .i64 0)) fun v46_28 =>
    xR Tryd.prog (sLoad 32 v46_28) w26 fun v47_29 =>
    xP Tryd.prog (sB .len #[32] #[v47_29]) fun v48_30 =>
    xE Tryd.prog (sMakeSlice 32 v48_30 v48_30) w26 fun v49_31 w32 =>
    xE Tryd.prog (sCall 37 #[a0, a1, (vs24.getD 1 undef)]) w32 fun v53_33 w34 =>
    xP Tryd.prog (sB .len #[32] #[v53_33]) fun v54_35 =>
    xLoop [(.int .i64 0)] w34 fun J36 vs37 _ w39 =>
      xP Tryd.prog (sBin .lss 3 (vs37.getD 0 undef) v54_35) fun v56_40 =>
      xIf v56_40 (
        xP Tryd.prog (sIA 32 v53_33 (vs37.getD 0 undef)) fun v58_41 =>
      xR Tryd.prog (sLoad 5 v58_41) w39 fun v59_42 =>
      xP Tryd.prog (sB .len #[32] #[v49_31]) fun v61_43 =>
      xLoop [(.int .i64 0)] w39 fun J44 vs45 _ w47 =>
        xP Tryd.prog (sBin .lss 3 (vs45.getD 0 undef) v61_43) fun v63_48 =>
        xIf v63_48 (
          xP Tryd.prog (sIA 32 v49_31 (vs45.getD 0 undef)) fun v69_49 =>
        xR Tryd.prog (sLoad 5 v69_49) (w47.drew) fun v70_50 =>
        xP Tryd.prog (sIA 29 a2 (vs37.getD 0 undef)) fun v74_51 =>
        xR Tryd.prog (sLoad 32 v74_51) (w47.drew) fun v75_52 =>
        xP Tryd.prog (sIA 32 v75_52 (vs45.getD 0 undef)) fun v77_53 =>
        xR Tryd.prog (sLoad 5 v77_53) (w47.drew) fun v78_54 =>
        xE Tryd.prog (sCall 18 #[v59_42, v78_54]) (w47.drew) fun v79_55 w56 =>
        xStill Tryd.prog (sLoad 5 v69_49) v70_50 w56 <|
        xP Tryd.prog (sBin .xor 5 v70_50 v79_55) fun v80_57 =>
        xP Tryd.prog (sIA 32 v49_31 (vs45.getD 0 undef)) fun v81_58 =>
        xE Tryd.prog (sStore 5 v81_58 v80_57) w56 fun _ w59 =>
        xP Tryd.prog (sBin .add 3 (vs45.getD 0 undef) (.int .i64 1)) fun v82_60 =>
        J44 [v82_60] w59) (
          xP Tryd.prog (sBin .add 3 (vs37.getD 0 undef) (.int .i64 1)) fun v83_61 =>
      J36 [v83_61] w47)) (
        xE Tryd.prog (sBuildSlice 29 1 #[(0, v49_31)]) w39 fun v86_62 w63 =>
    xE Tryd.prog (sB .append #[29, 29] #[(vs24.getD 0 undef), v86_62]) w63 fun v87_64 w65 =>
    xP Tryd.prog (sBin .add 3 (vs24.getD 1 undef) (.int .i64 1)) fun v44_66 =>
    J23 [v87_64, v44_66] w65)) (
      R (.returned (.tuple #[(vs24.getD 0 undef), (.int .i64 0)])) w26)))
theorem C_staveref1_Encode {a0 : Value} {a1 : Value} {a2 : Value} {w : World} {R : Ending → World → Prop} (h : S_staveref1_Encode a0 a1 a2 w R) : Calls Tryd.prog 19 #[a0, a1, a2] w R :=
  funcVC_sound (an := A_staveref1_Encode) (args := [a0, a1, a2]) (k := 3) Tryd.func19 (by kernel_rfl) rfl
    (Eq.mp (show S_staveref1_Encode a0 a1 a2 w R = funcVC Tryd.prog Tryd.f19 A_staveref1_Encode [a0, a1, a2] w R by kernel_rfl) h)

/-- stave/stavebook.Within -/
def A_stavebook_Within : Ann := (.seq .nil (.seq .nil (.join [0] .nil .nil)))
def S_stavebook_Within (a0 : Value) (a1 : Value) (a2 : Value) (w : World) (R : Ending → World → Prop) : Prop :=
  xP Tryd.prog (sBin .sub 3 a2 a1) fun v10_1 =>
  xP Tryd.prog (sBin .add 3 v10_1 (.int .i64 1)) fun v11_2 =>
  xP Tryd.prog (sBin .rem 3 a0 v11_2) fun v12_3 =>
  xJoin (fun J4 =>
    xP Tryd.prog (sBin .lss 3 v12_3 (.int .i64 0)) fun v14_5 =>
    xIf v14_5 (
      xP Tryd.prog (sBin .add 3 v12_3 a2) fun v17_6 =>
      xP Tryd.prog (sBin .sub 3 v17_6 a1) fun v19_7 =>
      xP Tryd.prog (sBin .add 3 v19_7 (.int .i64 1)) fun v20_8 =>
      J4 [v20_8] w) (
      J4 [v12_3] w)) fun vs9 _ w11 =>
  xP Tryd.prog (sBin .add 3 a1 (vs9.getD 0 undef)) fun v23_12 =>
  R (.returned v23_12) w11
theorem C_stavebook_Within {a0 : Value} {a1 : Value} {a2 : Value} {w : World} {R : Ending → World → Prop} (h : S_stavebook_Within a0 a1 a2 w R) : Calls Tryd.prog 20 #[a0, a1, a2] w R :=
  funcVC_sound (an := A_stavebook_Within) (args := [a0, a1, a2]) (k := 3) Tryd.func20 (by kernel_rfl) rfl
    (Eq.mp (show S_stavebook_Within a0 a1 a2 w R = funcVC Tryd.prog Tryd.f20 A_stavebook_Within [a0, a1, a2] w R by kernel_rfl) h)

/-- stave/stavelaw4.made -/
def A_stavelaw4_made : Ann := (.seq .nil (.seq .nil (.seq (.seq .nil (.one (.loop [7, 8] (.seq .nil (.seq (.one (.seq .nil (.seq (.seq .nil (.one (.loop [20] (.seq .nil (.seq .nil (.join [] .nil .nil)))))) .nil))) .nil))))) .nil)))
def S_stavelaw4_made (a0 : Value) (a1 : Value) (a2 : Value) (w : World) (R : Ending → World → Prop) : Prop :=
  xLoop [(.slice none 0 0), (.int .i64 0)] w fun J1 vs2 _ w4 =>
    xP Tryd.prog (sBin .lss 3 (vs2.getD 1 undef) a0) fun v13_5 =>
    xIf v13_5 (
      xE Tryd.prog (sMakeSlice 32 a1 a1) w4 fun v17_6 w7 =>
    xP Tryd.prog (sB .len #[32] #[v17_6]) fun v19_8 =>
    xLoop [(.int .i64 0)] w7 fun J9 vs10 _ w12 =>
      xP Tryd.prog (sBin .lss 3 (vs10.getD 0 undef) v19_8) fun v21_13 =>
      xIf v21_13 (
        xJoin (fun J14 =>
        xP Tryd.prog (sB .len #[32] #[a2]) fun v24_15 =>
        xP Tryd.prog (sBin .gtr 3 v24_15 (.int .i64 0)) fun v25_16 =>
        xIf v25_16 (
          xP Tryd.prog (sBin .mul 3 (vs2.getD 1 undef) a1) fun v31_17 =>
          xP Tryd.prog (sBin .add 3 v31_17 (vs10.getD 0 undef)) fun v33_18 =>
          xP Tryd.prog (sB .len #[32] #[a2]) fun v35_19 =>
          xP Tryd.prog (sBin .rem 3 v33_18 v35_19) fun v36_20 =>
          xP Tryd.prog (sIA 32 a2 v36_20) fun v37_21 =>
          xR Tryd.prog (sLoad 5 v37_21) w12 fun v38_22 =>
          xP Tryd.prog (sConv 3 5 (vs2.getD 1 undef)) fun v40_23 =>
          xP Tryd.prog (sBin .add 5 v38_22 v40_23) fun v41_24 =>
          xP Tryd.prog (sIA 32 v17_6 (vs10.getD 0 undef)) fun v42_25 =>
          xE Tryd.prog (sStore 5 v42_25 v41_24) w12 fun _ w26 =>
          J14 [] w26) (
          J14 [] w12)) fun _ _ w29 =>
      xP Tryd.prog (sBin .add 3 (vs10.getD 0 undef) (.int .i64 1)) fun v43_30 =>
      J9 [v43_30] w29) (
        xE Tryd.prog (sBuildSlice 29 1 #[(0, v17_6)]) w12 fun v46_31 w32 =>
    xE Tryd.prog (sB .append #[29, 29] #[(vs2.getD 0 undef), v46_31]) w32 fun v47_33 w34 =>
    xP Tryd.prog (sBin .add 3 (vs2.getD 1 undef) (.int .i64 1)) fun v15_35 =>
    J1 [v47_33, v15_35] w34)) (
      R (.returned (vs2.getD 0 undef)) w4)
theorem C_stavelaw4_made {a0 : Value} {a1 : Value} {a2 : Value} {w : World} {R : Ending → World → Prop} (h : S_stavelaw4_made a0 a1 a2 w R) : Calls Tryd.prog 21 #[a0, a1, a2] w R :=
  funcVC_sound (an := A_stavelaw4_made) (args := [a0, a1, a2]) (k := 3) Tryd.func21 (by kernel_rfl) rfl
    (Eq.mp (show S_stavelaw4_made a0 a1 a2 w R = funcVC Tryd.prog Tryd.f21 A_stavelaw4_made [a0, a1, a2] w R by kernel_rfl) h)

/-- stave/staveref1.Decode -/
def A_staveref1_Decode : Ann := (.seq .nil (.seq .nil (.seq .nil (.seq .nil (.seq (.seq .nil (.one (.loop [8, 9, 26] (.seq .nil (.seq .nil (.join [8, 9] (.one (.seq .nil (.seq (.join [49] (.draw (.pre [0, 1, 2, 3, 4, 5, 6, 7, 8, 9, 10, 11, 12, 13, 14, 15, 16, 17, 18, 19] .nil) [0, 1, 3, 7, 15, 31, 15, 127, 255, 511, 1023, 2047, 4095, 1023, 9215, 25599, 58367, 123903, 262143, 524287]) .nil) (.join [60] .nil (.seq (.seq .nil (.draw (.pre [0, 1, 2, 3, 4, 8, 9, 10] (.alt 5 (.pre [] (.alt 6 (.pre [] (.alt 7 (.pre [11, 12, 13, 14] .nil) (.op 11 (.pre [7, 12, 13, 14] .nil)))) (.op 11 (.pre [6, 7, 12, 13, 14] .nil)))) (.op 11 (.pre [5, 6, 7, 12, 13, 14] .nil)))) [0, 0, 0, 0, 8, 30, 62, 127, 0, 0, 512, 1536, 4095, 8191, 16383])) .nil))))) .nil)))))) (.seq .nil (.seq .nil (.seq (.seq .nil (.one (.loop [13, 85] (.seq .nil (.seq .nil (.seq (.one (.seq .nil (.seq .nil (.seq (.seq .nil (.one (.loop [96] (.seq .nil (.seq .nil (.seq (.one (.seq .nil (.seq .nil (.one (.loop [103] (.seq .nil (.seq .nil (.seq (.one (.seq .nil (.draw (.pre [0, 1, 2, 3, 4, 5, 6, 7, 8, 9, 10, 11, 12, 13, 14, 15, 16, 17] .nil) [0, 0, 0, 0, 12, 28, 0, 0, 0, 384, 896, 0, 3968, 8064, 16320, 32764, 65535, 131071]))) .nil)))))))) .nil)))))) .nil)))) .nil)))))) .nil))))))))
def S_staveref1_Decode (a0 : Value) (a1 : Value) (a2 : Value) (w : World) (R : Ending → World → Prop) : Prop :=
  xE Tryd.prog (sCall 37 #[a0, a1, (.int .i64 0)]) w fun v22_1 w2 =>
  xR Tryd.prog (sEq .eql 32 true v22_1 (.slice none 0 0)) w2 fun v23_3 =>
  xIf v23_3 (
    R (.returned (.tuple #[(.slice none 0 0), (.int .i64 1)])) w2) (
    xE Tryd.prog (sAlloc 49) w2 fun v10_4 w5 =>
  xP Tryd.prog (sB .len #[48] #[a2]) fun v25_6 =>
  xLoop [(.slice none 0 0), (.slice none 0 0), (.int .i64 0)] w5 fun J7 vs8 _ w10 =>
    xP Tryd.prog (sBin .lss 3 (vs8.getD 2 undef) v25_6) fun v27_11 =>
    xIf v27_11 (
      xJoin (fun J12 =>
      xP Tryd.prog (sIA 48 a2 (vs8.getD 2 undef)) fun v28_13 =>
      xR Tryd.prog (sLoad 35 v28_13) w10 fun v29_14 =>
      xE Tryd.prog (sAlloc 35) w10 fun v12_15 w16 =>
      xE Tryd.prog (sStore 35 v12_15 v29_14) w16 fun _ w17 =>
      xJoin (fun J18 =>
        xP Tryd.prog (sFA 35 v12_15 0) fun v30_19 =>
        xR Tryd.prog (sLoad 3 v30_19) (w17.drew) fun v31_20 =>
        xP Tryd.prog (sBin .lss 3 v31_20 (.int .i64 0)) fun v32_21 =>
        xIf v32_21 (
        J18 [(.bool true)] (w17.drew)) (
        xP Tryd.prog (sFA 35 v12_15 0) fun v34_22 =>
        xR Tryd.prog (sLoad 3 v34_22) (w17.drew) fun v35_23 =>
        xP Tryd.prog (sBin .geq 3 v35_23 a1) fun v37_24 =>
        xIf v37_24 (
        J18 [(.bool true)] (w17.drew)) (
        xP Tryd.prog (sFA 35 v12_15 1) fun v40_25 =>
        xR Tryd.prog (sLoad 32 v40_25) (w17.drew) fun v41_26 =>
        xP Tryd.prog (sB .len #[32] #[v41_26]) fun v42_27 =>
        xP Tryd.prog (sIA 48 a2 (.int .i64 0)) fun v44_28 =>
        xP Tryd.prog (sFA 35 v44_28 1) fun v45_29 =>
        xR Tryd.prog (sLoad 32 v45_29) (w17.drew) fun v46_30 =>
        xP Tryd.prog (sB .len #[32] #[v46_30]) fun v47_31 =>
        xR Tryd.prog (sEq .neq 3 false v42_27 v47_31) (w17.drew) fun v48_32 =>
        J18 [v48_32] (w17.drew)))) fun vs33 _ w35 =>
      xIf (vs33.getD 0 undef) (
        R (.returned (.tuple #[(.slice none 0 0), (.int .i64 2)])) w35) (
        xJoin (fun J36 =>
        xP Tryd.prog (sFA 35 v12_15 0) fun v50_37 =>
        xR Tryd.prog (sLoad 3 v50_37) w35 fun v51_38 =>
        xP Tryd.prog (sIA 49 v10_4 v51_38) fun v52_39 =>
        xR Tryd.prog (sLoad 4 v52_39) w35 fun v53_40 =>
        xP Tryd.prog (sUn .not v53_40) fun v54_41 =>
        xIf v54_41 (
        xP Tryd.prog (sB .len #[29] #[(vs8.getD 0 undef)]) fun v57_42 =>
        xP Tryd.prog (sBin .lss 3 v57_42 a0) fun v59_43 =>
        J36 [v59_43] w35) (
        J36 [(.bool false)] w35)) fun vs44 _ w46 =>
      xIf (vs44.getD 0 undef) (
        xP Tryd.prog (sFA 35 v12_15 0) fun v61_47 =>
        xR Tryd.prog (sLoad 3 v61_47) w46 fun v62_48 =>
        xP Tryd.prog (sIA 49 v10_4 v62_48) fun v63_49 =>
        xE Tryd.prog (sStore 4 v63_49 (.bool true)) w46 fun _ w50 =>
        xP Tryd.prog (sFA 35 v12_15 0) fun v67_51 =>
        xR Tryd.prog (sLoad 3 v67_51) (w50.drew) fun v68_52 =>
        xP Tryd.prog (sFA 35 v12_15 1) fun v73_53 =>
        xR Tryd.prog (sLoad 32 v73_53) (w50.drew) fun v74_54 =>
        (xE Tryd.prog (sCall 37 #[a0, a1, v68_52]) (w50.drew) fun v69_55 w56 =>
        xStill Tryd.prog (sLoad 32 v73_53) v74_54 w56 <|
        (xE Tryd.prog (sBuildSlice 29 1 #[(0, v69_55)]) w56 fun v70_57 w58 =>
        xStill Tryd.prog (sLoad 32 v73_53) v74_54 w58 <|
        (xE Tryd.prog (sB .append #[29, 29] #[(vs8.getD 0 undef), v70_57]) w58 fun v71_59 w60 =>
        xStill Tryd.prog (sLoad 32 v73_53) v74_54 w60 <|
        xE Tryd.prog (sBuildSlice 29 1 #[(0, v74_54)]) w60 fun v75_61 w62 =>
        xE Tryd.prog (sB .append #[29, 29] #[(vs8.getD 1 undef), v75_61]) w62 fun v76_63 w64 =>
        J12 [v71_59, v76_63] w64) ∧
        (xE Tryd.prog (sBuildSlice 29 1 #[(0, v74_54)]) w58 fun v75_65 w66 =>
        xE Tryd.prog (sB .append #[29, 29] #[(vs8.getD 0 undef), v70_57]) w66 fun v71_67 w68 =>
        xE Tryd.prog (sB .append #[29, 29] #[(vs8.getD 1 undef), v75_65]) w68 fun v76_69 w70 =>
        J12 [v71_67, v76_69] w70)) ∧
        (xE Tryd.prog (sBuildSlice 29 1 #[(0, v74_54)]) w56 fun v75_71 w72 =>
        xE Tryd.prog (sBuildSlice 29 1 #[(0, v69_55)]) w72 fun v70_73 w74 =>
        xE Tryd.prog (sB .append #[29, 29] #[(vs8.getD 0 undef), v70_73]) w74 fun v71_75 w76 =>
        xE Tryd.prog (sB .append #[29, 29] #[(vs8.getD 1 undef), v75_71]) w76 fun v76_77 w78 =>
        J12 [v71_75, v76_77] w78)) ∧
        (xE Tryd.prog (sBuildSlice 29 1 #[(0, v74_54)]) (w50.drew) fun v75_79 w80 =>
        xStill Tryd.prog (sLoad 3 v67_51) v68_52 w80 <|
        xE Tryd.prog (sCall 37 #[a0, a1, v68_52]) w80 fun v69_81 w82 =>
        xE Tryd.prog (sBuildSlice 29 1 #[(0, v69_81)]) w82 fun v70_83 w84 =>
        xE Tryd.prog (sB .append #[29, 29] #[(vs8.getD 0 undef), v70_83]) w84 fun v71_85 w86 =>
        xE Tryd.prog (sB .append #[29, 29] #[(vs8.getD 1 undef), v75_79]) w86 fun v76_87 w88 =>
        J12 [v71_85, v76_87] w88)) (
        J12 [(vs8.getD 0 undef), (vs8.getD 1 undef)] w46))) fun vs89 _ w91 =>
    xP Tryd.prog (sBin .add 3 (vs8.getD 2 undef) (.int .i64 1)) fun v77_92 =>
    J7 [(vs89.getD 0 undef), (vs89.getD 1 undef), v77_92] w91) (
      xP Tryd.prog (sB .len #[29] #[(vs8.getD 0 undef)]) fun v79_93 =>
  xP Tryd.prog (sBin .lss 3 v79_93 a0) fun v81_94 =>
  xIf v81_94 (
    R (.returned (.tuple #[(.slice none 0 0), (.int .i64 3)])) w10) (
    xE Tryd.prog (sCall 38 #[(vs8.getD 0 undef)]) w10 fun v83_95 w96 =>
  xP Tryd.prog (sB .len #[29] #[v83_95]) fun v84_97 =>
  xLoop [(.slice none 0 0), (.int .i64 0)] w96 fun J98 vs99 _ w101 =>
    xP Tryd.prog (sBin .lss 3 (vs99.getD 1 undef) v84_97) fun v86_102 =>
    xIf v86_102 (
      xP Tryd.prog (sIA 29 v83_95 (vs99.getD 1 undef)) fun v87_103 =>
    xR Tryd.prog (sLoad 32 v87_103) w101 fun v88_104 =>
    xP Tryd.prog (sIA 29 (vs8.getD 1 undef) (.int .i64 0)) fun v90_105 =>
    xR Tryd.prog (sLoad 32 v90_105) w101 fun v91_106 =>
    xP Tryd.prog (sB .len #[32] #[v91_106]) fun v92_107 =>
    xE Tryd.prog (sMakeSlice 32 v92_107 v92_107) w101 fun v93_108 w109 =>
    xP Tryd.prog (sB .len #[32] #[v88_104]) fun v95_110 =>
    xLoop [(.int .i64 0)] w109 fun J111 vs112 _ w114 =>
      xP Tryd.prog (sBin .lss 3 (vs112.getD 0 undef) v95_110) fun v97_115 =>
      xIf v97_115 (
        xP Tryd.prog (sIA 32 v88_104 (vs112.getD 0 undef)) fun v99_116 =>
      xR Tryd.prog (sLoad 5 v99_116) w114 fun v100_117 =>
      xP Tryd.prog (sB .len #[32] #[v93_108]) fun v102_118 =>
      xLoop [(.int .i64 0)] w114 fun J119 vs120 _ w122 =>
        xP Tryd.prog (sBin .lss 3 (vs120.getD 0 undef) v102_118) fun v104_123 =>
        xIf v104_123 (
          xP Tryd.prog (sIA 32 v93_108 (vs120.getD 0 undef)) fun v110_124 =>
        xR Tryd.prog (sLoad 5 v110_124) (w122.drew) fun v111_125 =>
        xP Tryd.prog (sIA 29 (vs8.getD 1 undef) (vs112.getD 0 undef)) fun v115_126 =>
        xR Tryd.prog (sLoad 32 v115_126) (w122.drew) fun v116_127 =>
        xP Tryd.prog (sIA 32 v116_127 (vs120.getD 0 undef)) fun v118_128 =>
        xR Tryd.prog (sLoad 5 v118_128) (w122.drew) fun v119_129 =>
        xE Tryd.prog (sCall 18 #[v100_117, v119_129]) (w122.drew) fun v120_130 w131 =>
        xStill Tryd.prog (sLoad 5 v110_124) v111_125 w131 <|
        xP Tryd.prog (sBin .xor 5 v111_125 v120_130) fun v121_132 =>
        xP Tryd.prog (sIA 32 v93_108 (vs120.getD 0 undef)) fun v122_133 =>
        xE Tryd.prog (sStore 5 v122_133 v121_132) w131 fun _ w134 =>
        xP Tryd.prog (sBin .add 3 (vs120.getD 0 undef) (.int .i64 1)) fun v123_135 =>
        J119 [v123_135] w134) (
          xP Tryd.prog (sBin .add 3 (vs112.getD 0 undef) (.int .i64 1)) fun v124_136 =>
      J111 [v124_136] w122)) (
        xE Tryd.prog (sBuildSlice 29 1 #[(0, v93_108)]) w114 fun v127_137 w138 =>
    xE Tryd.prog (sB .append #[29, 29] #[(vs99.getD 0 undef), v127_137]) w138 fun v128_139 w140 =>
    xP Tryd.prog (sBin .add 3 (vs99.getD 1 undef) (.int .i64 1)) fun v129_141 =>
    J98 [v128_139, v129_141] w140)) (
      R (.returned (.tuple #[(vs99.getD 0 undef), (.int .i64 0)])) w101))))
theorem C_staveref1_Decode {a0 : Value} {a1 : Value} {a2 : Value} {w : World} {R : Ending → World → Prop} (h : S_staveref1_Decode a0 a1 a2 w R) : Calls Tryd.prog 22 #[a0, a1, a2] w R :=
  funcVC_sound (an := A_staveref1_Decode) (args := [a0, a1, a2]) (k := 3) Tryd.func22 (by kernel_rfl) rfl
    (Eq.mp (show S_staveref1_Decode a0 a1 a2 w R = funcVC Tryd.prog Tryd.f22 A_staveref1_Decode [a0, a1, a2] w R by kernel_rfl) h)

/-- (*stave/code.Code).Rebuild -/
def A_code_Code_Rebuild : Ann := (.seq .nil (.seq (.join [20] .nil .nil) .nil))
def S_code_Code_Rebuild (a0 : Value) (a1 : Value) (a2 : Value) (w : World) (R : Ending → World → Prop) : Prop :=
  xJoin (fun J1 =>
    xP Tryd.prog (sBin .lss 3 a1 (.int .i64 0)) fun v11_2 =>
    xIf v11_2 (
    J1 [(.bool true)] w) (
    xP Tryd.prog (sNil a0) fun v15_3 =>
    xP Tryd.prog (sFA 66 v15_3 2) fun v16_4 =>
    xR Tryd.prog (sLoad 29 v16_4) w fun v17_5 =>
    xP Tryd.prog (sB .len #[29] #[v17_5]) fun v18_6 =>
    xP Tryd.prog (sBin .geq 3 a1 v18_6) fun v19_7 =>
    J1 [v19_7] w)) fun vs8 _ w10 =>
  xIf (vs8.getD 0 undef) (
    xP Tryd.prog (sIface 27 (.int .i64 1)) fun v22_11 =>
    xE Tryd.prog (sCall 27 #[(.string (ByteArray.mk #[99, 111, 100, 101, 46, 82, 101, 98, 117, 105, 108, 100])), a1, v22_11]) w10 fun v23_12 w13 =>
    R (.returned (.tuple #[(.slice none 0 0), v23_12])) w13) (
    xE Tryd.prog (sCall 15 #[a0, a2]) w10 fun v27_14 w15 =>
  xP Tryd.prog (sExtract v27_14 0) fun v28_16 =>
  xP Tryd.prog (sExtract v27_14 1) fun v29_17 =>
  xR Tryd.prog (sEq .neq 24 true v29_17 (.nilIface)) w15 fun v31_18 =>
  xIf v31_18 (
    R (.returned (.tuple #[(.slice none 0 0), v29_17])) w15) (
    xP Tryd.prog (sNil a0) fun v35_19 =>
  xP Tryd.prog (sFA 66 v35_19 2) fun v36_20 =>
  xR Tryd.prog (sLoad 29 v36_20) w15 fun v37_21 =>
  xP Tryd.prog (sIA 29 v37_21 a1) fun v39_22 =>
  xR Tryd.prog (sLoad 32 v39_22) w15 fun v40_23 =>
  xE Tryd.prog (sCall 34 #[a0, v40_23, v28_16]) w15 fun v42_24 w25 =>
  R (.returned (.tuple #[v42_24, (.nilIface)])) w25))
theorem C_code_Code_Rebuild {a0 : Value} {a1 : Value} {a2 : Value} {w : World} {R : Ending → World → Prop} (h : S_code_Code_Rebuild a0 a1 a2 w R) : Calls Tryd.prog 23 #[a0, a1, a2] w R :=
  funcVC_sound (an := A_code_Code_Rebuild) (args := [a0, a1, a2]) (k := 3) Tryd.func23 (by kernel_rfl) rfl
    (Eq.mp (show S_code_Code_Rebuild a0 a1 a2 w R = funcVC Tryd.prog Tryd.f23 A_code_Code_Rebuild [a0, a1, a2] w R by kernel_rfl) h)

end Go.Proofs.YtoanmeohlpdjfaaDoor
