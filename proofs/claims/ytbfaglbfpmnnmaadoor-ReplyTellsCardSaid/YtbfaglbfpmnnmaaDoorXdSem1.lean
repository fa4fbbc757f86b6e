import Derived.Test.YtbfaglbfpmnnmaaDoorXB
import Derived.Test.YtbfaglbfpmnnmaaDoorRows
namespace Go.Proofs.YtbfaglbfpmnnmaaDoor
set_option linter.unusedSimpArgs false
set_option linter.unusedVariables false
open Go.X
set_option maxRecDepth 100000

/-- stave/stavelaw18.DedupRuns -/
def A_stavelaw18_DedupRuns : Ann := .nil
def S_stavelaw18_DedupRuns (w : World) (R : Ending → World → Prop) : Prop :=
  xE Tryd.prog (sCall 11 #[]) w fun v14_1 w2 =>
  xR Tryd.prog (sEq .eql 22 true v14_1 (.pointer none)) w2 fun v16_3 =>
  xIf v16_3 (
    R (.returned (.bool false)) w2) (
    xE Tryd.prog (sCall 12 #[v14_1, (.int .i64 7), (.int .i64 0)]) w2 fun v19_4 w5 =>
  xP Tryd.prog (sExtract v19_4 0) fun v20_6 =>
  xP Tryd.prog (sExtract v19_4 1) fun v21_7 =>
  xP Tryd.prog (sExtract v19_4 2) fun v22_8 =>
  xE Tryd.prog (sAlloc 25) w5 fun v2_9 w10 =>
  xE Tryd.prog (sStore 25 v2_9 v20_6) w10 fun _ w11 =>
  xP Tryd.prog (sBuild 25 #[(0, (.int .i64 0)), (1, (.int .i64 40)), (2, (.int .i64 2))]) fun v24_12 =>
  xE Tryd.prog (sCall 13 #[v14_1, (.int .i64 7), v24_12]) w11 fun _ w14 =>
  xE Tryd.prog (sCall 12 #[v14_1, (.int .i64 7), (.int .i64 0)]) w14 fun v28_15 w16 =>
  xP Tryd.prog (sExtract v28_15 0) fun v29_17 =>
  xP Tryd.prog (sExtract v28_15 1) fun v30_18 =>
  xP Tryd.prog (sExtract v28_15 2) fun v31_19 =>
  xE Tryd.prog (sAlloc 25) w16 fun v5_20 w21 =>
  xE Tryd.prog (sStore 25 v5_20 v29_17) w21 fun _ w22 =>
  xE Tryd.prog (sCall 12 #[v14_1, (.int .i64 7), (.int .i64 1)]) w22 fun v34_23 w24 =>
  xP Tryd.prog (sExtract v34_23 0) fun v35_25 =>
  xP Tryd.prog (sExtract v34_23 1) fun v36_26 =>
  xP Tryd.prog (sExtract v34_23 2) fun v37_27 =>
  xE Tryd.prog (sAlloc 25) w24 fun v8_28 w29 =>
  xE Tryd.prog (sStore 25 v8_28 v35_25) w29 fun _ w30 =>
  xE Tryd.prog (sCall 12 #[v14_1, (.int .i64 7), (.int .i64 2)]) w30 fun v40_31 w32 =>
  xP Tryd.prog (sExtract v40_31 0) fun v41_33 =>
  xP Tryd.prog (sExtract v40_31 1) fun _ =>
  xP Tryd.prog (sExtract v40_31 2) fun v43_35 =>
  xE Tryd.prog (sAlloc 25) w32 fun v11_36 w37 =>
  xE Tryd.prog (sStore 25 v11_36 v41_33) w37 fun _ w38 =>
  xP Tryd.prog (sUn .not v21_7) fun v45_39 =>
  xIf v45_39 (
  xR Tryd.prog (sEq .eql 27 true v22_8 (.nilIface)) w38 fun v48_40 =>
  xIf v48_40 (
  xIf v30_18 (
  xR Tryd.prog (sEq .eql 27 true v31_19 (.nilIface)) w38 fun v55_41 =>
  xIf v55_41 (
  xR Tryd.prog (sLoad 25 v5_20) w38 fun v58_42 =>
  xP Tryd.prog (sBuild 25 #[(0, (.int .i64 0)), (1, (.int .i64 40)), (2, (.int .i64 2))]) fun v59_43 =>
  xR Tryd.prog (sEq .eql 25 false v58_42 v59_43) w38 fun v60_44 =>
  xIf v60_44 (
  xP Tryd.prog (sUn .not v36_26) fun v64_45 =>
  xIf v64_45 (
  xR Tryd.prog (sEq .eql 27 true v37_27 (.nilIface)) w38 fun v68_46 =>
  xIf v68_46 (
  xE Tryd.prog (sCall 14 #[v43_35]) w38 fun v72_47 w48 =>
  xR Tryd.prog (sEq .eql 31 true v72_47 (.int .i64 12)) w48 fun v73_49 =>
  xIf v73_49 (
  xE Tryd.prog (sCall 15 #[v14_1]) w48 fun v77_50 w51 =>
  xR Tryd.prog (sEq .eql 3 true v77_50 (.int .i64 1)) w51 fun v78_52 =>
  R (.returned v78_52) w51) (
  R (.returned (.bool false)) w48)) (
  R (.returned (.bool false)) w38)) (
  R (.returned (.bool false)) w38)) (
  R (.returned (.bool false)) w38)) (
  R (.returned (.bool false)) w38)) (
  R (.returned (.bool false)) w38)) (
  R (.returned (.bool false)) w38)) (
  R (.returned (.bool false)) w38))
theorem C_stavelaw18_DedupRuns {w : World} {R : Ending → World → Prop} (h : S_stavelaw18_DedupRuns  w R) : Calls Tryd.prog 3 #[] w R :=
  funcVC_sound (an := A_stavelaw18_DedupRuns) (args := []) (k := 0) Tryd.func3 (by kernel_rfl) rfl
    (Eq.mp (show S_stavelaw18_DedupRuns  w R = funcVC Tryd.prog Tryd.f3 A_stavelaw18_DedupRuns [] w R by kernel_rfl) h)

/-- stave/stavelaw18.DedupPlays -/
def A_stavelaw18_DedupPlays : Ann := (.seq .nil (.seq .nil (.seq .nil (.seq (.seq .nil (.one (.loop [5] (.seq (.join [33] .nil .nil) (.seq (.one (.seq .nil (.seq .nil (.join [] (.seq .nil (.one (.seq .nil (.seq (.seq .nil (.join [] .nil .nil)) .nil)))) (.seq (.seq (.draw (.pre [0, 1, 2, 3, 4, 5, 6, 7, 10, 11, 12, 13, 14, 15, 16, 17, 18, 19, 20, 21, 22, 23, 24, 25, 26, 27, 28, 31, 8, 9, 29, 30] .nil) [0, 1, 0, 4, 15, 0, 0, 64, 192, 480, 0, 0, 2048, 6144, 14336, 0, 63488, 129024, 261120, 0, 0, 1048576, 3145728, 7340032, 0, 32505856, 66060288, 133169152, 267911168, 536870911, 1073741823, 0]) (.one (.loop [120] (.seq .nil (.seq .nil (.seq (.one (.seq .nil (.seq .nil (.seq .nil (.join [158] .nil .nil))))) .nil)))))) (.seq (.draw (.pre [0, 2, 3, 4, 5, 1, 6, 7] .nil) [0, 1, 0, 4, 12, 28, 63, 127]) .nil)))))) .nil))))) .nil))))
def S_stavelaw18_DedupPlays (a0 : Value) (w : World) (R : Ending → World → Prop) : Prop :=
  xE Tryd.prog (sCall 11 #[]) w fun v20_1 w2 =>
  xE Tryd.prog (sMakeMap 37 none) w2 fun v21_3 w4 =>
  xP Tryd.prog (sBuild 39 #[(0, v21_3)]) fun v22_5 =>
  xE Tryd.prog (sBox 39 v22_5) w4 fun v23_6 w7 =>
  xR Tryd.prog (sEq .eql 22 true v20_1 (.pointer none)) w7 fun v25_8 =>
  xIf v25_8 (
    R (.returned (.bool false)) w7) (
    xLoop [(.int .i64 0)] w7 fun J9 vs10 _ w12 =>
    xJoin (fun J13 =>
      xP Tryd.prog (sB .len #[35] #[a0]) fun v28_14 =>
      xP Tryd.prog (sBin .lss 3 (vs10.getD 0 undef) v28_14) fun v29_15 =>
      xIf v29_15 (
      xP Tryd.prog (sBin .lss 3 (vs10.getD 0 undef) (.int .i64 50)) fun v32_16 =>
      J13 [v32_16] w12) (
      J13 [(.bool false)] w12)) fun vs17 _ w19 =>
    xIf (vs17.getD 0 undef) (
      xP Tryd.prog (sIA 35 a0 (vs10.getD 0 undef)) fun v38_20 =>
    xR Tryd.prog (sLoad 41 v38_20) w19 fun v39_21 =>
    xE Tryd.prog (sAlloc 41) w19 fun v6_22 w23 =>
    xE Tryd.prog (sStore 41 v6_22 v39_21) w23 fun _ w24 =>
    xP Tryd.prog (sFA 41 v6_22 1) fun v40_25 =>
    xR Tryd.prog (sLoad 3 v40_25) w24 fun v41_26 =>
    xE Tryd.prog (sCall 16 #[v41_26, (.int .i64 1), (.int .i64 3)]) w24 fun v42_27 w28 =>
    xJoin (fun J29 =>
      xP Tryd.prog (sFA 41 v6_22 0) fun v43_30 =>
      xR Tryd.prog (sLoad 3 v43_30) w28 fun v44_31 =>
      xR Tryd.prog (sEq .eql 3 true v44_31 (.int .i64 2)) w28 fun v46_32 =>
      xIf v46_32 (
        xP Tryd.prog (sBuild 25 #[(1, (vs10.getD 0 undef)), (2, (.int .i64 1))]) fun v48_33 =>
        xE Tryd.prog (sAlloc 25) w28 fun v8_34 w35 =>
        xE Tryd.prog (sStore 25 v8_34 v48_33) w35 fun _ w36 =>
        xJoin (fun J37 =>
          xP Tryd.prog (sNil v23_6) fun v51_38 =>
          xP Tryd.prog (sFA 39 v51_38 0) fun v52_39 =>
          xR Tryd.prog (sLoad 37 v52_39) w36 fun v53_40 =>
          xR Tryd.prog (sLookup 37 v53_40 v42_27 true) w36 fun v55_41 =>
          xP Tryd.prog (sExtract v55_41 0) fun v56_42 =>
          xP Tryd.prog (sExtract v55_41 1) fun v57_43 =>
          xE Tryd.prog (sAlloc 25) w36 fun v9_44 w45 =>
          xE Tryd.prog (sStore 25 v9_44 v56_42) w45 fun _ w46 =>
          xIf v57_43 (
            xP Tryd.prog (sFA 25 v9_44 0) fun v59_47 =>
            xR Tryd.prog (sLoad 3 v59_47) w46 fun v60_48 =>
            xP Tryd.prog (sBin .add 3 v60_48 (.int .i64 1)) fun v61_49 =>
            xP Tryd.prog (sFA 25 v8_34 0) fun v62_50 =>
            xE Tryd.prog (sStore 3 v62_50 v61_49) w46 fun _ w51 =>
            J37 [] w51) (
            J37 [] w46)) fun _ _ w54 =>
        xR Tryd.prog (sLoad 25 v8_34) w54 fun v65_55 =>
        xE Tryd.prog (sCall 13 #[v20_1, v42_27, v65_55]) w54 fun _ w57 =>
        xR Tryd.prog (sLoad 25 v8_34) w57 fun v69_58 =>
        xE Tryd.prog (sCall 17 #[v23_6, v42_27, v69_58]) w57 fun _ w60 =>
        J29 [] w60) (
        xR Tryd.prog (sEq .eql 3 true v44_31 (.int .i64 3)) w28 fun v72_61 =>
        xIf v72_61 (
          xP Tryd.prog (sFA 41 v6_22 2) fun v73_62 =>
          xR Tryd.prog (sLoad 3 v73_62) w28 fun v74_63 =>
          xE Tryd.prog (sCall 16 #[v74_63, (.int .i64 0), (.int .i64 1099511627776)]) w28 fun v75_64 w65 =>
          xP Tryd.prog (sBuild 25 #[(0, v75_64), (1, (vs10.getD 0 undef))]) fun v77_66 =>
          xE Tryd.prog (sAlloc 25) w65 fun v11_67 w68 =>
          xE Tryd.prog (sStore 25 v11_67 v77_66) w68 fun _ w69 =>
          xR Tryd.prog (sLoad 25 v11_67) w69 fun v80_70 =>
          xE Tryd.prog (sCall 13 #[v20_1, v42_27, v80_70]) w69 fun _ w72 =>
          xR Tryd.prog (sLoad 25 v11_67) w72 fun v84_73 =>
          xE Tryd.prog (sCall 17 #[v23_6, v42_27, v84_73]) w72 fun _ w75 =>
          xR Tryd.prog (sLoad 25 v11_67) w75 fun v87_76 =>
          xE Tryd.prog (sCall 13 #[v20_1, (.int .i64 0), v87_76]) w75 fun _ w78 =>
          J29 [] w78) (
          J29 [] w28))) fun _ _ w81 =>
    xP Tryd.prog (sFA 41 v6_22 1) fun v89_82 =>
    xR Tryd.prog (sLoad 3 v89_82) (w81.drew) fun v90_83 =>
    xP Tryd.prog (sFA 41 v6_22 2) fun v91_84 =>
    xR Tryd.prog (sLoad 3 v91_84) (w81.drew) fun v92_85 =>
    xP Tryd.prog (sBuild 44 #[(0, v90_83), (1, v92_85)]) fun v93_86 =>
    xP Tryd.prog (sFA 41 v6_22 2) fun v95_87 =>
    xR Tryd.prog (sLoad 3 v95_87) (w81.drew) fun v96_88 =>
    xP Tryd.prog (sNil v23_6) fun v101_89 =>
    xP Tryd.prog (sFA 39 v101_89 0) fun v102_90 =>
    xR Tryd.prog (sLoad 37 v102_90) (w81.drew) fun v103_91 =>
    xR Tryd.prog (sLookup 37 v103_91 v42_27 false) (w81.drew) fun v105_92 =>
    xP Tryd.prog (sField 25 v105_92 0) fun v106_93 =>
    xP Tryd.prog (sBuild 44 #[(0, v42_27), (1, v106_93)]) fun v107_94 =>
    xP Tryd.prog (sNil v23_6) fun v110_95 =>
    xP Tryd.prog (sFA 39 v110_95 0) fun v111_96 =>
    xR Tryd.prog (sLoad 37 v111_96) (w81.drew) fun v112_97 =>
    xR Tryd.prog (sLookup 37 v112_97 v42_27 false) (w81.drew) fun v114_98 =>
    xP Tryd.prog (sField 25 v114_98 0) fun v115_99 =>
    xP Tryd.prog (sBin .add 3 v115_99 (.int .i64 1)) fun v116_100 =>
    xP Tryd.prog (sBuild 44 #[(0, v42_27), (1, v116_100)]) fun v117_101 =>
    xE Tryd.prog (sCall 16 #[v96_88, (.int .i64 0), (.int .i64 4)]) (w81.drew) fun v97_102 w103 =>
    xStill Tryd.prog (sLookup 37 v112_97 v42_27 false) v114_98 w103 <|
    xStill Tryd.prog (sLoad 37 v111_96) v112_97 w103 <|
    xStill Tryd.prog (sLookup 37 v103_91 v42_27 false) v105_92 w103 <|
    xStill Tryd.prog (sLoad 37 v102_90) v103_91 w103 <|
    xStill Tryd.prog (sLoad 3 v91_84) v92_85 w103 <|
    xStill Tryd.prog (sLoad 3 v89_82) v90_83 w103 <|
    xP Tryd.prog (sBuild 44 #[(0, v42_27), (1, v97_102)]) fun v98_104 =>
    xE Tryd.prog (sBuildSlice 45 4 #[(0, v93_86), (1, v98_104), (2, v107_94), (3, v117_101)]) w103 fun v118_105 w106 =>
    xP Tryd.prog (sB .len #[45] #[v118_105]) fun v119_107 =>
    xLoop [(.int .i64 0)] w106 fun J108 vs109 _ w111 =>
      xP Tryd.prog (sBin .lss 3 (vs109.getD 0 undef) v119_107) fun v121_112 =>
      xIf v121_112 (
        xP Tryd.prog (sIA 45 v118_105 (vs109.getD 0 undef)) fun v122_113 =>
      xR Tryd.prog (sLoad 44 v122_113) w111 fun v123_114 =>
      xE Tryd.prog (sAlloc 44) w111 fun v13_115 w116 =>
      xE Tryd.prog (sStore 44 v13_115 v123_114) w116 fun _ w117 =>
      xP Tryd.prog (sIA 44 v13_115 (.int .i64 0)) fun v126_118 =>
      xR Tryd.prog (sLoad 3 v126_118) w117 fun v127_119 =>
      xP Tryd.prog (sIA 44 v13_115 (.int .i64 1)) fun v128_120 =>
      xR Tryd.prog (sLoad 3 v128_120) w117 fun v129_121 =>
      xE Tryd.prog (sCall 12 #[v20_1, v127_119, v129_121]) w117 fun v130_122 w123 =>
      xP Tryd.prog (sExtract v130_122 0) fun v131_124 =>
      xP Tryd.prog (sExtract v130_122 1) fun v132_125 =>
      xP Tryd.prog (sExtract v130_122 2) fun v133_126 =>
      xE Tryd.prog (sAlloc 25) w123 fun v14_127 w128 =>
      xE Tryd.prog (sStore 25 v14_127 v131_124) w128 fun _ w129 =>
      xP Tryd.prog (sIA 44 v13_115 (.int .i64 0)) fun v136_130 =>
      xR Tryd.prog (sLoad 3 v136_130) w129 fun v137_131 =>
      xP Tryd.prog (sIA 44 v13_115 (.int .i64 1)) fun v138_132 =>
      xR Tryd.prog (sLoad 3 v138_132) w129 fun v139_133 =>
      xE Tryd.prog (sCall 18 #[v23_6, v137_131, v139_133]) w129 fun v140_134 w135 =>
      xP Tryd.prog (sExtract v140_134 0) fun v141_136 =>
      xP Tryd.prog (sExtract v140_134 1) fun v142_137 =>
      xP Tryd.prog (sExtract v140_134 2) fun v143_138 =>
      xE Tryd.prog (sAlloc 25) w135 fun v17_139 w140 =>
      xE Tryd.prog (sStore 25 v17_139 v141_136) w140 fun _ w141 =>
      xJoin (fun J142 =>
        xR Tryd.prog (sLoad 25 v14_127) w141 fun v144_143 =>
        xR Tryd.prog (sLoad 25 v17_139) w141 fun v145_144 =>
        xR Tryd.prog (sEq .neq 25 false v144_143 v145_144) w141 fun v146_145 =>
        xIf v146_145 (
        J142 [(.bool true)] w141) (
        xR Tryd.prog (sEq .eql 3 true v142_137 (.int .i64 1)) w141 fun v150_146 =>
        xR Tryd.prog (sEq .neq 4 false v132_125 v150_146) w141 fun v151_147 =>
        xIf v151_147 (
        J142 [(.bool true)] w141) (
        xE Tryd.prog (sCall 14 #[v133_126]) w141 fun v155_148 w149 =>
        xR Tryd.prog (sEq .neq 3 false v155_148 v143_138) w149 fun v157_150 =>
        J142 [v157_150] w149))) fun vs151 _ w153 =>
      xIf (vs151.getD 0 undef) (
        R (.returned (.bool false)) w153) (
        xP Tryd.prog (sBin .add 3 (vs109.getD 0 undef) (.int .i64 1)) fun v159_154 =>
      J108 [v159_154] w153)) (
        xP Tryd.prog (sNil v23_6) fun v163_155 =>
    xP Tryd.prog (sFA 39 v163_155 0) fun v164_156 =>
    xR Tryd.prog (sLoad 37 v164_156) (w111.drew) fun v165_157 =>
    xE Tryd.prog (sCall 15 #[v20_1]) (w111.drew) fun v161_158 w159 =>
    xStill Tryd.prog (sLoad 37 v164_156) v165_157 w159 <|
    xR Tryd.prog (sB .len #[37] #[v165_157]) w159 fun v166_160 =>
    xR Tryd.prog (sEq .neq 3 false v161_158 v166_160) w159 fun v167_161 =>
    xIf v167_161 (
      R (.returned (.bool false)) w159) (
      xP Tryd.prog (sBin .add 3 (vs10.getD 0 undef) (.int .i64 1)) fun v35_162 =>
    J9 [v35_162] w159))) (
      xE Tryd.prog (sCall 3 #[]) w19 fun v168_163 w164 =>
  R (.returned v168_163) w164))
theorem C_stavelaw18_DedupPlays {a0 : Value} {w : World} {R : Ending → World → Prop} (h : S_stavelaw18_DedupPlays a0 w R) : Calls Tryd.prog 4 #[a0] w R :=
  funcVC_sound (an := A_stavelaw18_DedupPlays) (args := [a0]) (k := 1) Tryd.func4 (by kernel_rfl) rfl
    (Eq.mp (show S_stavelaw18_DedupPlays a0 w R = funcVC Tryd.prog Tryd.f4 A_stavelaw18_DedupPlays [a0] w R by kernel_rfl) h)

/-- stave/stavelaw18.DedupOnce -/
def A_stavelaw18_DedupOnce : Ann := (.seq .nil (.seq .nil (.seq .nil (.seq .nil (.seq (.seq .nil (.one (.loop [7, 8] (.seq (.join [28] .nil .nil) (.join [7] (.one (.seq .nil (.seq .nil (.one (.seq .nil (.seq (.seq (.join [68] .nil .nil) .nil) (.seq .nil (.seq (.join [96] .nil .nil) (.join [54] .nil .nil))))))))) .nil))))) .nil)))))
def S_stavelaw18_DedupOnce (a0 : Value) (a1 : Value) (w : World) (R : Ending → World → Prop) : Prop :=
  xE Tryd.prog (sCall 11 #[]) w fun v16_1 w2 =>
  xR Tryd.prog (sEq .eql 22 true v16_1 (.pointer none)) w2 fun v18_3 =>
  xIf v18_3 (
    R (.returned (.bool false)) w2) (
    xE Tryd.prog (sCall 16 #[a0, (.int .i64 1), (.int .i64 1048576)]) w2 fun v20_4 w5 =>
  xLoop [(.int .i64 0), (.int .i64 0)] w5 fun J6 vs7 _ w9 =>
    xJoin (fun J10 =>
      xP Tryd.prog (sB .len #[49] #[a1]) fun v23_11 =>
      xP Tryd.prog (sBin .lss 3 (vs7.getD 1 undef) v23_11) fun v24_12 =>
      xIf v24_12 (
      xP Tryd.prog (sBin .lss 3 (vs7.getD 1 undef) (.int .i64 50)) fun v27_13 =>
      J10 [v27_13] w9) (
      J10 [(.bool false)] w9)) fun vs14 _ w16 =>
    xIf (vs14.getD 0 undef) (
      xJoin (fun J17 =>
      xP Tryd.prog (sIA 49 a1 (vs7.getD 1 undef)) fun v33_18 =>
      xR Tryd.prog (sLoad 3 v33_18) w16 fun v34_19 =>
      xP Tryd.prog (sBin .sub 3 (vs7.getD 0 undef) (.int .i64 3)) fun v36_20 =>
      xP Tryd.prog (sB .max #[3, 3] #[v36_20, (.int .i64 0)]) fun v37_21 =>
      xP Tryd.prog (sBin .add 3 (vs7.getD 0 undef) (.int .i64 2)) fun v39_22 =>
      xE Tryd.prog (sCall 16 #[v34_19, v37_21, v39_22]) w16 fun v40_23 w24 =>
      xE Tryd.prog (sCall 12 #[v16_1, v20_4, v40_23]) w24 fun v45_25 w26 =>
      xP Tryd.prog (sExtract v45_25 0) fun v46_27 =>
      xP Tryd.prog (sExtract v45_25 1) fun v47_28 =>
      xP Tryd.prog (sExtract v45_25 2) fun v48_29 =>
      xE Tryd.prog (sAlloc 25) w26 fun v10_30 w31 =>
      xE Tryd.prog (sStore 25 v10_30 v46_27) w31 fun _ w32 =>
      xR Tryd.prog (sEq .eql 3 false v40_23 (vs7.getD 0 undef)) w32 fun v58_33 =>
      xIf v58_33 (
        xJoin (fun J34 =>
          xIf v47_28 (
          J34 [(.bool true)] w32) (
          xR Tryd.prog (sEq .neq 27 true v48_29 (.nilIface)) w32 fun v62_35 =>
          xIf v62_35 (
          J34 [(.bool true)] w32) (
          xR Tryd.prog (sLoad 25 v10_30) w32 fun v65_36 =>
          xP Tryd.prog (sBuild 25 #[]) fun v66_37 =>
          xR Tryd.prog (sEq .neq 25 false v65_36 v66_37) w32 fun v67_38 =>
          J34 [v67_38] w32))) fun vs39 _ w41 =>
        xIf (vs39.getD 0 undef) (
          R (.returned (.bool false)) w41) (
          xP Tryd.prog (sBin .mul 3 (.int .i64 10) v40_23) fun v73_42 =>
        xP Tryd.prog (sBuild 25 #[(0, v40_23), (1, v73_42), (2, (.int .i64 1))]) fun v74_43 =>
        xE Tryd.prog (sCall 13 #[v16_1, v20_4, v74_43]) w41 fun _ w45 =>
        xP Tryd.prog (sBin .add 3 (vs7.getD 0 undef) (.int .i64 1)) fun v77_46 =>
        J17 [v77_46] w45)) (
        xP Tryd.prog (sBin .sub 3 (vs7.getD 0 undef) (.int .i64 1)) fun v81_47 =>
        xR Tryd.prog (sEq .eql 3 false v40_23 v81_47) w32 fun v82_48 =>
        xIf v82_48 (
          xJoin (fun J49 =>
            xP Tryd.prog (sUn .not v47_28) fun v84_50 =>
            xIf v84_50 (
            J49 [(.bool true)] w32) (
            xR Tryd.prog (sEq .neq 27 true v48_29 (.nilIface)) w32 fun v87_51 =>
            xIf v87_51 (
            J49 [(.bool true)] w32) (
            xR Tryd.prog (sLoad 25 v10_30) w32 fun v90_52 =>
            xP Tryd.prog (sBin .mul 3 (.int .i64 10) v40_23) fun v93_53 =>
            xP Tryd.prog (sBuild 25 #[(0, v40_23), (1, v93_53), (2, (.int .i64 1))]) fun v94_54 =>
            xR Tryd.prog (sEq .neq 25 false v90_52 v94_54) w32 fun v95_55 =>
            J49 [v95_55] w32))) fun vs56 _ w58 =>
          xIf (vs56.getD 0 undef) (
            R (.returned (.bool false)) w58) (
            J17 [(vs7.getD 0 undef)] w58)) (
          xJoin (fun J59 =>
            xIf v47_28 (
            J59 [(.bool true)] w32) (
            xE Tryd.prog (sCall 14 #[v48_29]) w32 fun v52_60 w61 =>
            xR Tryd.prog (sEq .neq 31 true v52_60 (.int .i64 12)) w61 fun v53_62 =>
            J59 [v53_62] w61)) fun vs63 _ w65 =>
          xIf (vs63.getD 0 undef) (
            R (.returned (.bool false)) w65) (
            J17 [(vs7.getD 0 undef)] w65)))) fun vs66 _ w68 =>
    xP Tryd.prog (sBin .add 3 (vs7.getD 1 undef) (.int .i64 1)) fun v30_69 =>
    J6 [(vs66.getD 0 undef), v30_69] w68) (
      xE Tryd.prog (sCall 12 #[v16_1, (.int .i64 0), (.int .i64 5)]) w16 fun v99_70 w71 =>
  xP Tryd.prog (sExtract v99_70 0) fun v100_72 =>
  xP Tryd.prog (sExtract v99_70 1) fun v101_73 =>
  xP Tryd.prog (sExtract v99_70 2) fun v102_74 =>
  xE Tryd.prog (sAlloc 25) w71 fun v13_75 w76 =>
  xE Tryd.prog (sStore 25 v13_75 v100_72) w76 fun _ w77 =>
  xP Tryd.prog (sUn .not v101_73) fun v104_78 =>
  xIf v104_78 (
  xR Tryd.prog (sEq .eql 27 true v102_74 (.nilIface)) w77 fun v107_79 =>
  xIf v107_79 (
  xE Tryd.prog (sCall 15 #[v16_1]) w77 fun v111_80 w81 =>
  xP Tryd.prog (sBin .leq 3 v111_80 (.int .i64 1)) fun v112_82 =>
  xIf v112_82 (
  xE Tryd.prog (sCall 3 #[]) w81 fun v115_83 w84 =>
  R (.returned v115_83) w84) (
  R (.returned (.bool false)) w81)) (
  R (.returned (.bool false)) w77)) (
  R (.returned (.bool false)) w77)))
theorem C_stavelaw18_DedupOnce {a0 : Value} {a1 : Value} {w : World} {R : Ending → World → Prop} (h : S_stavelaw18_DedupOnce a0 a1 w R) : Calls Tryd.prog 5 #[a0, a1] w R :=
  funcVC_sound (an := A_stavelaw18_DedupOnce) (args := [a0, a1]) (k := 2) Tryd.func5 (by kernel_rfl) rfl
    (Eq.mp (show S_stavelaw18_DedupOnce a0 a1 w R = funcVC Tryd.prog Tryd.f5 A_stavelaw18_DedupOnce [a0, a1] w R by kernel_rfl) h)

/-- stave/stavelaw18.DedupApart -/
def A_stavelaw18_DedupApart : Ann := (.seq .nil (.seq .nil (.seq .nil (.seq .nil (.seq (.seq .nil (.one (.loop [9] (.seq (.join [41] .nil .nil) (.seq (.one (.seq .nil (.seq (.seq .nil (.join [64] .nil .nil)) (.seq .nil (.seq .nil (.seq .nil (.one (.loop [14] (.seq .nil (.join [] (.one (.seq .nil (.seq .nil (.join [110] .nil .nil)))) .nil)))))))))) .nil))))) .nil)))))
def S_stavelaw18_DedupApart (a0 : Value) (a1 : Value) (a2 : Value) (w : World) (R : Ending → World → Prop) : Prop :=
  xE Tryd.prog (sCall 11 #[]) w fun v30_1 w2 =>
  xR Tryd.prog (sEq .eql 22 true v30_1 (.pointer none)) w2 fun v32_3 =>
  xIf v32_3 (
    R (.returned (.bool false)) w2) (
    xE Tryd.prog (sMakeMap 51 none) w2 fun v33_4 w5 =>
  xLoop [(.int .i64 0)] w5 fun J6 vs7 _ w9 =>
    xJoin (fun J10 =>
      xP Tryd.prog (sB .len #[35] #[a0]) fun v36_11 =>
      xP Tryd.prog (sBin .lss 3 (vs7.getD 0 undef) v36_11) fun v37_12 =>
      xIf v37_12 (
      xP Tryd.prog (sBin .lss 3 (vs7.getD 0 undef) (.int .i64 40)) fun v40_13 =>
      J10 [v40_13] w9) (
      J10 [(.bool false)] w9)) fun vs14 _ w16 =>
    xIf (vs14.getD 0 undef) (
      xP Tryd.prog (sIA 35 a0 (vs7.getD 0 undef)) fun v46_17 =>
    xP Tryd.prog (sFA 41 v46_17 1) fun v47_18 =>
    xR Tryd.prog (sLoad 3 v47_18) w16 fun v48_19 =>
    xE Tryd.prog (sCall 16 #[v48_19, (.int .i64 1), (.int .i64 6)]) w16 fun v49_20 w21 =>
    xR Tryd.prog (sLookup 51 v33_4 v49_20 false) w21 fun v55_22 =>
    xE Tryd.prog (sCall 12 #[v30_1, v49_20, v55_22]) w21 fun v56_23 w24 =>
    xP Tryd.prog (sExtract v56_23 0) fun v57_25 =>
    xP Tryd.prog (sExtract v56_23 1) fun v58_26 =>
    xP Tryd.prog (sExtract v56_23 2) fun v59_27 =>
    xE Tryd.prog (sAlloc 25) w24 fun v11_28 w29 =>
    xE Tryd.prog (sStore 25 v11_28 v57_25) w29 fun _ w30 =>
    xJoin (fun J31 =>
      xIf v58_26 (
      J31 [(.bool true)] w30) (
      xR Tryd.prog (sEq .neq 27 true v59_27 (.nilIface)) w30 fun v63_32 =>
      J31 [v63_32] w30)) fun vs33 _ w35 =>
    xIf (vs33.getD 0 undef) (
      R (.returned (.bool false)) w35) (
      xR Tryd.prog (sLookup 51 v33_4 v49_20 false) w35 fun v69_36 =>
    xP Tryd.prog (sBuild 25 #[(0, v69_36), (1, (vs7.getD 0 undef)), (2, (.int .i64 1))]) fun v71_37 =>
    xE Tryd.prog (sCall 13 #[v30_1, v49_20, v71_37]) w35 fun _ w39 =>
    xR Tryd.prog (sLookup 51 v33_4 v49_20 false) w39 fun v75_40 =>
    xP Tryd.prog (sBin .add 3 v75_40 (.int .i64 1)) fun v76_41 =>
    xE Tryd.prog (sMapUpdate 51 v33_4 v49_20 v76_41) w39 fun _ w42 =>
    xLoop [(.int .i64 1)] w42 fun J43 vs44 _ w46 =>
      xP Tryd.prog (sBin .leq 3 (vs44.getD 0 undef) (.int .i64 6)) fun v78_47 =>
      xIf v78_47 (
        xJoin (fun J48 =>
        xR Tryd.prog (sLookup 51 v33_4 (vs44.getD 0 undef) false) w46 fun v83_49 =>
        xR Tryd.prog (sEq .eql 3 true v83_49 (.int .i64 0)) w46 fun v84_50 =>
        xIf v84_50 (
          J48 [] w46) (
          xR Tryd.prog (sLookup 51 v33_4 (vs44.getD 0 undef) false) w46 fun v90_51 =>
        xP Tryd.prog (sBin .sub 3 v90_51 (.int .i64 1)) fun v91_52 =>
        xE Tryd.prog (sCall 12 #[v30_1, (vs44.getD 0 undef), v91_52]) w46 fun v92_53 w54 =>
        xP Tryd.prog (sExtract v92_53 0) fun v93_55 =>
        xP Tryd.prog (sExtract v92_53 1) fun v94_56 =>
        xP Tryd.prog (sExtract v92_53 2) fun v95_57 =>
        xE Tryd.prog (sAlloc 25) w54 fun v15_58 w59 =>
        xE Tryd.prog (sStore 25 v15_58 v93_55) w59 fun _ w60 =>
        xJoin (fun J61 =>
          xP Tryd.prog (sUn .not v94_56) fun v97_62 =>
          xIf v97_62 (
          J61 [(.bool true)] w60) (
          xR Tryd.prog (sEq .neq 27 true v95_57 (.nilIface)) w60 fun v100_63 =>
          xIf v100_63 (
          J61 [(.bool true)] w60) (
          xP Tryd.prog (sFA 25 v15_58 0) fun v103_64 =>
          xR Tryd.prog (sLoad 3 v103_64) w60 fun v104_65 =>
          xR Tryd.prog (sLookup 51 v33_4 (vs44.getD 0 undef) false) w60 fun v107_66 =>
          xP Tryd.prog (sBin .sub 3 v107_66 (.int .i64 1)) fun v108_67 =>
          xR Tryd.prog (sEq .neq 3 false v104_65 v108_67) w60 fun v109_68 =>
          J61 [v109_68] w60))) fun vs69 _ w71 =>
        xIf (vs69.getD 0 undef) (
          R (.returned (.bool false)) w71) (
          J48 [] w71))) fun _ _ w74 =>
      xP Tryd.prog (sBin .add 3 (vs44.getD 0 undef) (.int .i64 1)) fun v80_75 =>
      J43 [v80_75] w74) (
        xP Tryd.prog (sBin .add 3 (vs7.getD 0 undef) (.int .i64 1)) fun v43_76 =>
    J6 [v43_76] w46))) (
      xE Tryd.prog (sCall 12 #[v30_1, (.int .i64 0), a2]) w16 fun v114_77 w78 =>
  xP Tryd.prog (sExtract v114_77 0) fun v115_79 =>
  xP Tryd.prog (sExtract v114_77 1) fun v116_80 =>
  xP Tryd.prog (sExtract v114_77 2) fun v117_81 =>
  xE Tryd.prog (sAlloc 25) w78 fun v18_82 w83 =>
  xE Tryd.prog (sStore 25 v18_82 v115_79) w83 fun _ w84 =>
  xE Tryd.prog (sCall 16 #[a1, (.int .i64 0), (.int .i64 9)]) w84 fun v121_85 w86 =>
  xP Tryd.prog (sBin .add 3 (.int .i64 1048577) v121_85) fun v122_87 =>
  xE Tryd.prog (sCall 12 #[v30_1, v122_87, (.int .i64 0)]) w86 fun v123_88 w89 =>
  xP Tryd.prog (sExtract v123_88 0) fun v124_90 =>
  xP Tryd.prog (sExtract v123_88 1) fun _ =>
  xP Tryd.prog (sExtract v123_88 2) fun v126_92 =>
  xE Tryd.prog (sAlloc 25) w89 fun v21_93 w94 =>
  xE Tryd.prog (sStore 25 v21_93 v124_90) w94 fun _ w95 =>
  xE Tryd.prog (sCall 16 #[a1, (.int .i64 0), (.int .i64 9)]) w95 fun v130_96 w97 =>
  xP Tryd.prog (sBin .sub 3 (.int .i64 (-1)) v130_96) fun v131_98 =>
  xE Tryd.prog (sCall 12 #[v30_1, (.int .i64 1), v131_98]) w97 fun v132_99 w100 =>
  xP Tryd.prog (sExtract v132_99 0) fun v133_101 =>
  xP Tryd.prog (sExtract v132_99 1) fun _ =>
  xP Tryd.prog (sExtract v132_99 2) fun v135_103 =>
  xE Tryd.prog (sAlloc 25) w100 fun v24_104 w105 =>
  xE Tryd.prog (sStore 25 v24_104 v133_101) w105 fun _ w106 =>
  xE Tryd.prog (sCall 12 #[v30_1, (.int .i64 (-1)), (.int .i64 0)]) w106 fun v138_107 w108 =>
  xP Tryd.prog (sExtract v138_107 0) fun v139_109 =>
  xP Tryd.prog (sExtract v138_107 1) fun _ =>
  xP Tryd.prog (sExtract v138_107 2) fun v141_111 =>
  xE Tryd.prog (sAlloc 25) w108 fun v27_112 w113 =>
  xE Tryd.prog (sStore 25 v27_112 v139_109) w113 fun _ w114 =>
  xR Tryd.prog (sLoad 25 v18_82) w114 fun v142_115 =>
  xP Tryd.prog (sBuild 25 #[]) fun v143_116 =>
  xR Tryd.prog (sEq .eql 25 false v142_115 v143_116) w114 fun v144_117 =>
  xIf v144_117 (
  xP Tryd.prog (sUn .not v116_80) fun v147_118 =>
  xIf v147_118 (
  xR Tryd.prog (sEq .eql 27 true v117_81 (.nilIface)) w114 fun v151_119 =>
  xIf v151_119 (
  xE Tryd.prog (sCall 14 #[v126_92]) w114 fun v155_120 w121 =>
  xR Tryd.prog (sEq .eql 31 true v155_120 (.int .i64 1)) w121 fun v156_122 =>
  xIf v156_122 (
  xE Tryd.prog (sCall 14 #[v135_103]) w121 fun v160_123 w124 =>
  xR Tryd.prog (sEq .eql 31 true v160_123 (.int .i64 1)) w124 fun v161_125 =>
  xIf v161_125 (
  xE Tryd.prog (sCall 14 #[v141_111]) w124 fun v165_126 w127 =>
  xR Tryd.prog (sEq .eql 31 true v165_126 (.int .i64 1)) w127 fun v166_128 =>
  xIf v166_128 (
  xE Tryd.prog (sCall 15 #[v30_1]) w127 fun v170_129 w130 =>
  xR Tryd.prog (sB .len #[51] #[v33_4]) w130 fun v172_131 =>
  xR Tryd.prog (sEq .eql 3 false v170_129 v172_131) w130 fun v173_132 =>
  xIf v173_132 (
  xE Tryd.prog (sCall 3 #[]) w130 fun v176_133 w134 =>
  R (.returned v176_133) w134) (
  R (.returned (.bool false)) w130)) (
  R (.returned (.bool false)) w127)) (
  R (.returned (.bool false)) w124)) (
  R (.returned (.bool false)) w121)) (
  R (.returned (.bool false)) w114)) (
  R (.returned (.bool false)) w114)) (
  R (.returned (.bool false)) w114)))
theorem C_stavelaw18_DedupApart {a0 : Value} {a1 : Value} {a2 : Value} {w : World} {R : Ending → World → Prop} (h : S_stavelaw18_DedupApart a0 a1 a2 w R) : Calls Tryd.prog 6 #[a0, a1, a2] w R :=
  funcVC_sound (an := A_stavelaw18_DedupApart) (args := [a0, a1, a2]) (k := 3) Tryd.func6 (by kernel_rfl) rfl
    (Eq.mp (show S_stavelaw18_DedupApart a0 a1 a2 w R = funcVC Tryd.prog Tryd.f6 A_stavelaw18_DedupApart [a0, a1, a2] w R by kernel_rfl) h)

/-- stave/stavelaw18.DedupLast -/
def A_stavelaw18_DedupLast : Ann := (.seq .nil (.seq .nil (.seq .nil (.seq .nil (.seq (.seq .nil (.one (.loop [7] (.seq (.join [34] .nil .nil) (.seq (.one (.seq .nil (.seq .nil (.seq .nil (.seq .nil (.seq .nil (.seq .nil (.seq .nil (.join [125] .nil .nil))))))))) .nil))))) .nil)))))
def S_stavelaw18_DedupLast (a0 : Value) (a1 : Value) (w : World) (R : Ending → World → Prop) : Prop :=
  xE Tryd.prog (sCall 11 #[]) w fun v22_1 w2 =>
  xR Tryd.prog (sEq .eql 22 true v22_1 (.pointer none)) w2 fun v24_3 =>
  xIf v24_3 (
    R (.returned (.bool false)) w2) (
    xE Tryd.prog (sCall 16 #[a0, (.int .i64 1), (.int .i64 1048576)]) w2 fun v26_4 w5 =>
  xLoop [(.int .i64 0)] w5 fun J6 vs7 _ w9 =>
    xJoin (fun J10 =>
      xP Tryd.prog (sB .len #[49] #[a1]) fun v29_11 =>
      xP Tryd.prog (sBin .lss 3 (vs7.getD 0 undef) v29_11) fun v30_12 =>
      xIf v30_12 (
      xP Tryd.prog (sBin .lss 3 (vs7.getD 0 undef) (.int .i64 30)) fun v33_13 =>
      J10 [v33_13] w9) (
      J10 [(.bool false)] w9)) fun vs14 _ w16 =>
    xIf (vs14.getD 0 undef) (
      xP Tryd.prog (sIA 49 a1 (vs7.getD 0 undef)) fun v39_17 =>
    xR Tryd.prog (sLoad 3 v39_17) w16 fun v40_18 =>
    xE Tryd.prog (sCall 16 #[v40_18, (.int .i64 2), (.int .i64 1000)]) w16 fun v41_19 w20 =>
    xP Tryd.prog (sBin .rem 3 (vs7.getD 0 undef) (.int .i64 3)) fun v45_21 =>
    xP Tryd.prog (sBin .add 3 (.int .i64 1) v45_21) fun v46_22 =>
    xP Tryd.prog (sBuild 25 #[(0, v41_19), (1, (vs7.getD 0 undef)), (2, v46_22)]) fun v47_23 =>
    xE Tryd.prog (sAlloc 25) w20 fun v9_24 w25 =>
    xE Tryd.prog (sStore 25 v9_24 v47_23) w25 fun _ w26 =>
    xR Tryd.prog (sLoad 25 v9_24) w26 fun v50_27 =>
    xE Tryd.prog (sCall 13 #[v22_1, v26_4, v50_27]) w26 fun _ w29 =>
    xE Tryd.prog (sCall 12 #[v22_1, v26_4, v41_19]) w29 fun v56_30 w31 =>
    xP Tryd.prog (sExtract v56_30 0) fun v57_32 =>
    xP Tryd.prog (sExtract v56_30 1) fun v58_33 =>
    xP Tryd.prog (sExtract v56_30 2) fun v59_34 =>
    xE Tryd.prog (sAlloc 25) w31 fun v10_35 w36 =>
    xE Tryd.prog (sStore 25 v10_35 v57_32) w36 fun _ w37 =>
    xP Tryd.prog (sBin .sub 3 v41_19 (.int .i64 1)) fun v64_38 =>
    xE Tryd.prog (sCall 12 #[v22_1, v26_4, v64_38]) w37 fun v65_39 w40 =>
    xP Tryd.prog (sExtract v65_39 0) fun v66_41 =>
    xP Tryd.prog (sExtract v65_39 1) fun v67_42 =>
    xP Tryd.prog (sExtract v65_39 2) fun v68_43 =>
    xE Tryd.prog (sAlloc 25) w40 fun v13_44 w45 =>
    xE Tryd.prog (sStore 25 v13_44 v66_41) w45 fun _ w46 =>
    xP Tryd.prog (sBin .add 3 v41_19 (.int .i64 1)) fun v73_47 =>
    xE Tryd.prog (sCall 12 #[v22_1, v26_4, v73_47]) w46 fun v74_48 w49 =>
    xP Tryd.prog (sExtract v74_48 0) fun v75_50 =>
    xP Tryd.prog (sExtract v74_48 1) fun v76_51 =>
    xP Tryd.prog (sExtract v74_48 2) fun v77_52 =>
    xE Tryd.prog (sAlloc 25) w49 fun v16_53 w54 =>
    xE Tryd.prog (sStore 25 v16_53 v75_50) w54 fun _ w55 =>
    xP Tryd.prog (sBin .add 3 v41_19 (.int .i64 2)) fun v82_56 =>
    xE Tryd.prog (sCall 12 #[v22_1, v26_4, v82_56]) w55 fun v83_57 w58 =>
    xP Tryd.prog (sExtract v83_57 0) fun v84_59 =>
    xP Tryd.prog (sExtract v83_57 1) fun v85_60 =>
    xP Tryd.prog (sExtract v83_57 2) fun v86_61 =>
    xE Tryd.prog (sAlloc 25) w58 fun v19_62 w63 =>
    xE Tryd.prog (sStore 25 v19_62 v84_59) w63 fun _ w64 =>
    xJoin (fun J65 =>
      xP Tryd.prog (sUn .not v58_33) fun v88_66 =>
      xIf v88_66 (
      J65 [(.bool true)] w64) (
      xR Tryd.prog (sEq .neq 27 true v59_34 (.nilIface)) w64 fun v91_67 =>
      xIf v91_67 (
      J65 [(.bool true)] w64) (
      xR Tryd.prog (sLoad 25 v10_35) w64 fun v94_68 =>
      xR Tryd.prog (sLoad 25 v9_24) w64 fun v95_69 =>
      xR Tryd.prog (sEq .neq 25 false v94_68 v95_69) w64 fun v96_70 =>
      xIf v96_70 (
      J65 [(.bool true)] w64) (
      xIf v67_42 (
      J65 [(.bool true)] w64) (
      xE Tryd.prog (sCall 14 #[v68_43]) w64 fun v103_71 w72 =>
      xR Tryd.prog (sEq .neq 31 true v103_71 (.int .i64 12)) w72 fun v104_73 =>
      xIf v104_73 (
      J65 [(.bool true)] w72) (
      xIf v76_51 (
      J65 [(.bool true)] w72) (
      xR Tryd.prog (sEq .neq 27 true v77_52 (.nilIface)) w72 fun v111_74 =>
      xIf v111_74 (
      J65 [(.bool true)] w72) (
      xIf v85_60 (
      J65 [(.bool true)] w72) (
      xE Tryd.prog (sCall 14 #[v86_61]) w72 fun v118_75 w76 =>
      xR Tryd.prog (sEq .neq 31 true v118_75 (.int .i64 12)) w76 fun v119_77 =>
      xIf v119_77 (
      J65 [(.bool true)] w76) (
      xE Tryd.prog (sCall 15 #[v22_1]) w76 fun v123_78 w79 =>
      xR Tryd.prog (sEq .neq 3 true v123_78 (.int .i64 1)) w79 fun v124_80 =>
      J65 [v124_80] w79)))))))))) fun vs81 _ w83 =>
    xIf (vs81.getD 0 undef) (
      R (.returned (.bool false)) w83) (
      xP Tryd.prog (sBin .add 3 (vs7.getD 0 undef) (.int .i64 1)) fun v36_84 =>
    J6 [v36_84] w83)) (
      xE Tryd.prog (sCall 3 #[]) w16 fun v126_85 w86 =>
  R (.returned v126_85) w86))
theorem C_stavelaw18_DedupLast {a0 : Value} {a1 : Value} {w : World} {R : Ending → World → Prop} (h : S_stavelaw18_DedupLast a0 a1 w R) : Calls Tryd.prog 7 #[a0, a1] w R :=
  funcVC_sound (an := A_stavelaw18_DedupLast) (args := [a0, a1]) (k := 2) Tryd.func7 (by kernel_rfl) rfl
    (Eq.mp (show S_stavelaw18_DedupLast a0 a1 w R = funcVC Tryd.prog Tryd.f7 A_stavelaw18_DedupLast [a0, a1] w R by kernel_rfl) h)

/-- stave/stavelaw18.DedupTwin -/
def A_stavelaw18_DedupTwin : Ann := (.seq .nil (.seq .nil (.seq .nil (.seq (.seq .nil (.one (.loop [8] (.seq (.join [36] .nil .nil) (.seq (.one (.draw (.pre [0, 1, 2, 3, 4, 5, 7, 8, 9, 10, 11, 13, 6, 12, 14, 15] .nil) [0, 0, 0, 6, 14, 30, 62, 0, 0, 384, 896, 1920, 4094, 0, 16382, 32767])) .nil))))) (.seq .nil (.seq (.join [65] .nil .nil) (.seq .nil (.seq (.seq .nil (.one (.loop [11] (.seq .nil (.seq (.one (.seq .nil (.one (.loop [12] (.seq .nil (.seq (.one (.seq .nil (.seq .nil (.join [106] .nil .nil)))) .nil)))))) .nil))))) .nil))))))))
def S_stavelaw18_DedupTwin (a0 : Value) (a1 : Value) (a2 : Value) (w : World) (R : Ending → World → Prop) : Prop :=
  xE Tryd.prog (sCall 11 #[]) w fun v26_1 w2 =>
  xR Tryd.prog (sEq .eql 22 true v26_1 (.pointer none)) w2 fun v28_3 =>
  xIf v28_3 (
    R (.returned (.bool false)) w2) (
    xLoop [(.int .i64 0)] w2 fun J4 vs5 _ w7 =>
    xJoin (fun J8 =>
      xP Tryd.prog (sB .len #[35] #[a0]) fun v31_9 =>
      xP Tryd.prog (sBin .lss 3 (vs5.getD 0 undef) v31_9) fun v32_10 =>
      xIf v32_10 (
      xP Tryd.prog (sBin .lss 3 (vs5.getD 0 undef) (.int .i64 20)) fun v35_11 =>
      J8 [v35_11] w7) (
      J8 [(.bool false)] w7)) fun vs12 _ w14 =>
    xIf (vs12.getD 0 undef) (
      xP Tryd.prog (sIA 35 a0 (vs5.getD 0 undef)) fun v42_15 =>
    xP Tryd.prog (sFA 41 v42_15 1) fun v43_16 =>
    xR Tryd.prog (sLoad 3 v43_16) (w14.drew) fun v44_17 =>
    xP Tryd.prog (sIA 35 a0 (vs5.getD 0 undef)) fun v48_18 =>
    xP Tryd.prog (sFA 41 v48_18 2) fun v49_19 =>
    xR Tryd.prog (sLoad 3 v49_19) (w14.drew) fun v50_20 =>
    xE Tryd.prog (sCall 16 #[v44_17, (.int .i64 1), (.int .i64 5)]) (w14.drew) fun v45_21 w22 =>
    xStill Tryd.prog (sLoad 3 v49_19) v50_20 w22 <|
    xE Tryd.prog (sCall 16 #[v50_20, (.int .i64 0), (.int .i64 9)]) w22 fun v51_23 w24 =>
    xP Tryd.prog (sBuild 25 #[(0, v51_23), (1, (vs5.getD 0 undef))]) fun v53_25 =>
    xE Tryd.prog (sCall 13 #[v26_1, v45_21, v53_25]) w24 fun _ w27 =>
    xP Tryd.prog (sBin .add 3 (vs5.getD 0 undef) (.int .i64 1)) fun v38_28 =>
    J4 [v38_28] w27) (
      xE Tryd.prog (sCall 19 #[v26_1]) w14 fun v56_29 w30 =>
  xJoin (fun J31 =>
    xR Tryd.prog (sEq .eql 22 true v56_29 (.pointer none)) w30 fun v58_32 =>
    xIf v58_32 (
    J31 [(.bool true)] w30) (
    xE Tryd.prog (sCall 15 #[v56_29]) w30 fun v61_33 w34 =>
    xE Tryd.prog (sCall 15 #[v26_1]) w34 fun v63_35 w36 =>
    xR Tryd.prog (sEq .neq 3 false v61_33 v63_35) w36 fun v64_37 =>
    J31 [v64_37] w36)) fun vs38 _ w40 =>
  xIf (vs38.getD 0 undef) (
    R (.returned (.bool false)) w40) (
    xE Tryd.prog (sCall 16 #[a1, (.int .i64 1), (.int .i64 5)]) w40 fun v67_41 w42 =>
  xLoop [(.int .i64 1)] w42 fun J43 vs44 _ w46 =>
    xP Tryd.prog (sBin .leq 3 (vs44.getD 0 undef) (.int .i64 5)) fun v69_47 =>
    xIf v69_47 (
      xLoop [(.int .i64 0)] w46 fun J48 vs49 _ w51 =>
      xP Tryd.prog (sBin .lss 3 (vs49.getD 0 undef) (.int .i64 11)) fun v73_52 =>
      xIf v73_52 (
        xE Tryd.prog (sCall 12 #[v26_1, (vs44.getD 0 undef), (vs49.getD 0 undef)]) w51 fun v80_53 w54 =>
      xP Tryd.prog (sExtract v80_53 0) fun v81_55 =>
      xP Tryd.prog (sExtract v80_53 1) fun v82_56 =>
      xP Tryd.prog (sExtract v80_53 2) fun v83_57 =>
      xE Tryd.prog (sAlloc 25) w54 fun v13_58 w59 =>
      xE Tryd.prog (sStore 25 v13_58 v81_55) w59 fun _ w60 =>
      xE Tryd.prog (sCall 12 #[v56_29, (vs44.getD 0 undef), (vs49.getD 0 undef)]) w60 fun v88_61 w62 =>
      xP Tryd.prog (sExtract v88_61 0) fun v89_63 =>
      xP Tryd.prog (sExtract v88_61 1) fun v90_64 =>
      xP Tryd.prog (sExtract v88_61 2) fun v91_65 =>
      xE Tryd.prog (sAlloc 25) w62 fun v16_66 w67 =>
      xE Tryd.prog (sStore 25 v16_66 v89_63) w67 fun _ w68 =>
      xJoin (fun J69 =>
        xR Tryd.prog (sLoad 25 v13_58) w68 fun v92_70 =>
        xR Tryd.prog (sLoad 25 v16_66) w68 fun v93_71 =>
        xR Tryd.prog (sEq .neq 25 false v92_70 v93_71) w68 fun v94_72 =>
        xIf v94_72 (
        J69 [(.bool true)] w68) (
        xR Tryd.prog (sEq .neq 4 false v82_56 v90_64) w68 fun v98_73 =>
        xIf v98_73 (
        J69 [(.bool true)] w68) (
        xE Tryd.prog (sCall 14 #[v83_57]) w68 fun v102_74 w75 =>
        xE Tryd.prog (sCall 14 #[v91_65]) w75 fun v104_76 w77 =>
        xR Tryd.prog (sEq .neq 31 false v102_74 v104_76) w77 fun v105_78 =>
        J69 [v105_78] w77))) fun vs79 _ w81 =>
      xIf (vs79.getD 0 undef) (
        R (.returned (.bool false)) w81) (
        xP Tryd.prog (sBin .add 3 (vs49.getD 0 undef) (.int .i64 1)) fun v75_82 =>
      J48 [v75_82] w81)) (
        xP Tryd.prog (sBin .add 3 (vs44.getD 0 undef) (.int .i64 1)) fun v71_83 =>
    J43 [v71_83] w51)) (
      xE Tryd.prog (sCall 16 #[a2, (.int .i64 0), (.int .i64 9)]) w46 fun v108_84 w85 =>
  xP Tryd.prog (sBin .add 3 (.int .i64 100) v108_84) fun v109_86 =>
  xP Tryd.prog (sBuild 25 #[(0, v109_86), (1, (.int .i64 1))]) fun v110_87 =>
  xE Tryd.prog (sAlloc 25) w85 fun v19_88 w89 =>
  xE Tryd.prog (sStore 25 v19_88 v110_87) w89 fun _ w90 =>
  xR Tryd.prog (sLoad 25 v19_88) w90 fun v113_91 =>
  xE Tryd.prog (sCall 13 #[v56_29, v67_41, v113_91]) w90 fun _ w93 =>
  xP Tryd.prog (sFA 25 v19_88 0) fun v118_94 =>
  xR Tryd.prog (sLoad 3 v118_94) w93 fun v119_95 =>
  xE Tryd.prog (sCall 12 #[v26_1, v67_41, v119_95]) w93 fun v120_96 w97 =>
  xP Tryd.prog (sExtract v120_96 0) fun v121_98 =>
  xP Tryd.prog (sExtract v120_96 1) fun v122_99 =>
  xP Tryd.prog (sExtract v120_96 2) fun _ =>
  xE Tryd.prog (sAlloc 25) w97 fun v20_101 w102 =>
  xE Tryd.prog (sStore 25 v20_101 v121_98) w102 fun _ w103 =>
  xP Tryd.prog (sFA 25 v19_88 0) fun v127_104 =>
  xR Tryd.prog (sLoad 3 v127_104) w103 fun v128_105 =>
  xE Tryd.prog (sCall 12 #[v56_29, v67_41, v128_105]) w103 fun v129_106 w107 =>
  xP Tryd.prog (sExtract v129_106 0) fun v130_108 =>
  xP Tryd.prog (sExtract v129_106 1) fun v131_109 =>
  xP Tryd.prog (sExtract v129_106 2) fun _ =>
  xE Tryd.prog (sAlloc 25) w107 fun v23_111 w112 =>
  xE Tryd.prog (sStore 25 v23_111 v130_108) w112 fun _ w113 =>
  xP Tryd.prog (sUn .not v122_99) fun v134_114 =>
  xIf v134_114 (
  xIf v131_109 (
  xR Tryd.prog (sLoad 25 v23_111) w113 fun v139_115 =>
  xR Tryd.prog (sLoad 25 v19_88) w113 fun v140_116 =>
  xR Tryd.prog (sEq .eql 25 false v139_115 v140_116) w113 fun v141_117 =>
  xIf v141_117 (
  xE Tryd.prog (sCall 3 #[]) w113 fun v144_118 w119 =>
  R (.returned v144_118) w119) (
  R (.returned (.bool false)) w113)) (
  R (.returned (.bool false)) w113)) (
  R (.returned (.bool false)) w113)))))
theorem C_stavelaw18_DedupTwin {a0 : Value} {a1 : Value} {a2 : Value} {w : World} {R : Ending → World → Prop} (h : S_stavelaw18_DedupTwin a0 a1 a2 w R) : Calls Tryd.prog 8 #[a0, a1, a2] w R :=
  funcVC_sound (an := A_stavelaw18_DedupTwin) (args := [a0, a1, a2]) (k := 3) Tryd.func8 (by kernel_rfl) rfl
    (Eq.mp (show S_stavelaw18_DedupTwin a0 a1 a2 w R = funcVC Tryd.prog Tryd.f8 A_stavelaw18_DedupTwin [a0, a1, a2] w R by kernel_rfl) h)

/-- stave/stavelaw23.ReplyTells -/
def A_stavelaw23_ReplyTells : Ann := (.seq .nil (.seq .nil (.seq .nil (.seq (.join [32] (.draw (.pre [0, 2, 1, 3, 4, 5, 6, 7, 8, 9, 10, 11] .nil) [0, 1, 0, 7, 15, 31, 63, 63, 191, 511, 1023, 2047]) .nil) (.seq .nil (.join [11] .nil .nil))))))
def S_stavelaw23_ReplyTells (a0 : Value) (a1 : Value) (a2 : Value) (a3 : Value) (w : World) (R : Ending → World → Prop) : Prop :=
  xE Tryd.prog (sBox 56 a0) w fun v4_1 w2 =>
  xR Tryd.prog (sLoad 56 v4_1) w2 fun v17_3 =>
  xE Tryd.prog (sCall 20 #[v17_3]) w2 fun v18_4 w5 =>
  xE Tryd.prog (sAlloc 56) w5 fun v9_6 w7 =>
  xE Tryd.prog (sStore 56 v9_6 v18_4) w7 fun _ w8 =>
  xR Tryd.prog (sLoad 56 v9_6) w8 fun v19_9 =>
  xE Tryd.prog (sCall 21 #[v19_9]) w8 fun v20_10 w11 =>
  xJoin (fun J12 =>
    xR Tryd.prog (sLoad 56 v9_6) (w11.drew) fun v21_13 =>
    xR Tryd.prog (sLoad 56 v9_6) (w11.drew) fun v23_14 =>
    xE Tryd.prog (sCall 22 #[v21_13]) (w11.drew) fun v22_15 w16 =>
    xStill Tryd.prog (sLoad 56 v9_6) v23_14 w16 <|
    xE Tryd.prog (sCall 23 #[v23_14]) w16 fun v24_17 w18 =>
    xR Tryd.prog (sEq .neq 4 false v22_15 v24_17) w18 fun v25_19 =>
    xIf v25_19 (
    J12 [(.bool true)] w18) (
    xR Tryd.prog (sLoad 56 v9_6) w18 fun v28_20 =>
    xE Tryd.prog (sCall 25 #[v28_20]) w18 fun v29_21 w22 =>
    xE Tryd.prog (sCall 24 #[v20_10, v29_21]) w22 fun v30_23 w24 =>
    xP Tryd.prog (sUn .not v30_23) fun v31_25 =>
    J12 [v31_25] w24)) fun vs26 _ w28 =>
  xIf (vs26.getD 0 undef) (
    R (.returned (.bool false)) w28) (
    xE Tryd.prog (sBuildSlice 57 0 #[]) w28 fun v33_29 w30 =>
  xP Tryd.prog (sB .len #[57] #[a1]) fun v36_31 =>
  xP Tryd.prog (sB .min #[3, 3] #[v36_31, (.int .i64 100)]) fun v37_32 =>
  xP Tryd.prog (sSlice 57 a1 none (some v37_32) none) fun v38_33 =>
  xE Tryd.prog (sB .append #[57, 57] #[v33_29, v38_33]) w30 fun v39_34 w35 =>
  xJoin (fun J36 =>
    xP Tryd.prog (sB .len #[57] #[v20_10]) fun v41_37 =>
    xP Tryd.prog (sBin .gtr 3 v41_37 (.int .i64 0)) fun v42_38 =>
    xIf v42_38 (
      xE Tryd.prog (sBuildSlice 57 0 #[]) w35 fun v43_39 w40 =>
      xE Tryd.prog (sB .append #[57, 57] #[v43_39, v20_10]) w40 fun v45_41 w42 =>
      xP Tryd.prog (sB .len #[57] #[v45_41]) fun v49_43 =>
      xP Tryd.prog (sBin .sub 3 v49_43 (.int .i64 1)) fun v50_44 =>
      xE Tryd.prog (sCall 16 #[a2, (.int .i64 0), v50_44]) w42 fun v51_45 w46 =>
      xP Tryd.prog (sIA 57 v45_41 v51_45) fun v52_47 =>
      xR Tryd.prog (sLoad 5 v52_47) w46 fun v53_48 =>
      xP Tryd.prog (sBin .xor 5 v53_48 a3) fun v55_49 =>
      xP Tryd.prog (sIA 57 v45_41 v51_45) fun v56_50 =>
      xE Tryd.prog (sStore 5 v56_50 v55_49) w46 fun _ w51 =>
      J36 [v45_41] w51) (
      J36 [v39_34] w35)) fun vs52 _ w54 =>
  xE Tryd.prog (sCall 26 #[(vs52.getD 0 undef), (.int .u8 7)]) w54 fun v58_55 w56 =>
  xP Tryd.prog (sB .len #[57] #[(vs52.getD 0 undef)]) fun v62_57 =>
  xP Tryd.prog (sSlice 57 v58_55 none (some v62_57) none) fun v63_58 =>
  xE Tryd.prog (sCall 27 #[v63_58]) w56 fun v64_59 w60 =>
  xP Tryd.prog (sExtract v64_59 0) fun v65_61 =>
  xP Tryd.prog (sExtract v64_59 1) fun v66_62 =>
  xE Tryd.prog (sAlloc 56) w60 fun v13_63 w64 =>
  xE Tryd.prog (sStore 56 v13_63 v65_61) w64 fun _ w65 =>
  xE Tryd.prog (sCall 28 #[(vs52.getD 0 undef)]) w65 fun v69_66 w67 =>
  xP Tryd.prog (sExtract v69_66 0) fun v70_68 =>
  xP Tryd.prog (sExtract v69_66 1) fun v71_69 =>
  xE Tryd.prog (sAlloc 56) w67 fun v15_70 w71 =>
  xE Tryd.prog (sStore 56 v15_70 v70_68) w71 fun _ w72 =>
  xR Tryd.prog (sLoad 56 v13_63) w72 fun v72_73 =>
  xR Tryd.prog (sLoad 56 v15_70) w72 fun v73_74 =>
  xE Tryd.prog (sCall 29 #[v72_73, v73_74]) w72 fun v74_75 w76 =>
  xIf v74_75 (
  xE Tryd.prog (sCall 14 #[v66_62]) w76 fun v77_77 w78 =>
  xR Tryd.prog (sEq .eql 3 false v77_77 v71_69) w78 fun v79_79 =>
  xIf v79_79 (
  xE Tryd.prog (sCall 30 #[v58_55, (vs52.getD 0 undef), (.int .u8 7)]) w78 fun v84_80 w81 =>
  xIf v84_80 (
  xE Tryd.prog (sCall 31 #[]) w81 fun v87_82 w83 =>
  R (.returned v87_82) w83) (
  R (.returned (.bool false)) w81)) (
  R (.returned (.bool false)) w78)) (
  R (.returned (.bool false)) w76))
theorem C_stavelaw23_ReplyTells {a0 : Value} {a1 : Value} {a2 : Value} {a3 : Value} {w : World} {R : Ending → World → Prop} (h : S_stavelaw23_ReplyTells a0 a1 a2 a3 w R) : Calls Tryd.prog 9 #[a0, a1, a2, a3] w R :=
  funcVC_sound (an := A_stavelaw23_ReplyTells) (args := [a0, a1, a2, a3]) (k := 4) Tryd.func9 (by kernel_rfl) rfl
    (Eq.mp (show S_stavelaw23_ReplyTells a0 a1 a2 a3 w R = funcVC Tryd.prog Tryd.f9 A_stavelaw23_ReplyTells [a0, a1, a2, a3] w R by kernel_rfl) h)

/-- stave/stavelaw23.ReplyBack -/
def A_stavelaw23_ReplyBack : Ann := (.seq .nil (.join [9, 10] (.draw (.pre [0, 2] (.alt 1 (.pre [] (.alt 3 (.pre [] (.alt 4 (.pre [5, 6, 7] .nil) (.op 5 (.pre [4, 6, 7] .nil)))) (.alt 4 (.pre [] (.alt 3 (.pre [5, 6, 7] .nil) (.op 5 (.pre [3, 6, 7] .nil)))) (.op 5 (.pre [] (.alt 3 (.pre [4, 6, 7] .nil) (.op 4 (.pre [3, 6, 7] .nil)))))))) (.alt 4 (.pre [] (.alt 1 (.pre [] (.alt 3 (.pre [5, 6, 7] .nil) (.op 5 (.pre [3, 6, 7] .nil)))) (.op 5 (.pre [1, 3, 6, 7] .nil)))) (.op 5 (.pre [] (.alt 1 (.pre [] (.alt 3 (.pre [4, 6, 7] .nil) (.op 4 (.pre [3, 6, 7] .nil)))) (.op 4 (.pre [1, 3, 6, 7] .nil)))))))) [0, 1, 0, 7, 0, 0, 63, 127]) (.seq (.draw (.pre [0, 2, 1, 3, 4, 5] .nil) [0, 1, 0, 7, 15, 31]) (.seq (.join [34] .nil .nil) (.seq .nil (.seq .nil (.seq .nil (.seq (.draw (.pre [0, 1, 2, 3, 4, 5, 6, 7, 8, 9, 11, 12, 10, 13, 14, 15, 16, 17, 18, 19, 20, 21, 22, 23, 24, 25, 26, 27, 28, 29] .nil) [0, 1, 3, 7, 7, 31, 63, 127, 255, 255, 1023, 255, 255, 8191, 16383, 32767, 65535, 131071, 262143, 524287, 1048575, 2097151, 4194303, 8388607, 16777215, 33554431, 67108863, 134217727, 268435455, 536870911]) .nil))))))))
def S_stavelaw23_ReplyBack (a0 : Value) (a1 : Value) (a2 : Value) (a3 : Value) (w : World) (R : Ending → World → Prop) : Prop :=
  xE Tryd.prog (sBox 56 a0) w fun v4_1 w2 =>
  xE Tryd.prog (sBox 56 a1) w2 fun v5_3 w4 =>
  xJoin (fun J5 =>
    xR Tryd.prog (sLoad 56 v4_1) (w4.drew) fun v19_6 =>
    xR Tryd.prog (sLoad 56 v5_3) (w4.drew) fun v21_7 =>
    (xE Tryd.prog (sCall 20 #[v19_6]) (w4.drew) fun v20_8 w9 =>
    xStill Tryd.prog (sLoad 56 v5_3) v21_7 w9 <|
    (xE Tryd.prog (sCall 20 #[v21_7]) w9 fun v22_10 w11 =>
    (xE Tryd.prog (sAlloc 56) w11 fun v9_12 w13 =>
    xE Tryd.prog (sAlloc 56) w13 fun v10_14 w15 =>
    xE Tryd.prog (sStore 56 v9_12 v20_8) w15 fun _ w16 =>
    xE Tryd.prog (sStore 56 v10_14 v22_10) w16 fun _ w17 =>
    J5 [v9_12, v10_14] w17) ∧
    (xE Tryd.prog (sAlloc 56) w11 fun v10_18 w19 =>
    xE Tryd.prog (sAlloc 56) w19 fun v9_20 w21 =>
    xE Tryd.prog (sStore 56 v9_20 v20_8) w21 fun _ w22 =>
    xE Tryd.prog (sStore 56 v10_18 v22_10) w22 fun _ w23 =>
    J5 [v9_20, v10_18] w23)) ∧
    (xE Tryd.prog (sAlloc 56) w9 fun v9_24 w25 =>
    xStill Tryd.prog (sLoad 56 v5_3) v21_7 w25 <|
    (xE Tryd.prog (sCall 20 #[v21_7]) w25 fun v22_26 w27 =>
    xE Tryd.prog (sAlloc 56) w27 fun v10_28 w29 =>
    xE Tryd.prog (sStore 56 v9_24 v20_8) w29 fun _ w30 =>
    xE Tryd.prog (sStore 56 v10_28 v22_26) w30 fun _ w31 =>
    J5 [v9_24, v10_28] w31) ∧
    (xE Tryd.prog (sAlloc 56) w25 fun v10_32 w33 =>
    xStill Tryd.prog (sLoad 56 v5_3) v21_7 w33 <|
    xE Tryd.prog (sCall 20 #[v21_7]) w33 fun v22_34 w35 =>
    xE Tryd.prog (sStore 56 v9_24 v20_8) w35 fun _ w36 =>
    xE Tryd.prog (sStore 56 v10_32 v22_34) w36 fun _ w37 =>
    J5 [v9_24, v10_32] w37)) ∧
    (xE Tryd.prog (sAlloc 56) w9 fun v10_38 w39 =>
    xStill Tryd.prog (sLoad 56 v5_3) v21_7 w39 <|
    (xE Tryd.prog (sCall 20 #[v21_7]) w39 fun v22_40 w41 =>
    xE Tryd.prog (sAlloc 56) w41 fun v9_42 w43 =>
    xE Tryd.prog (sStore 56 v9_42 v20_8) w43 fun _ w44 =>
    xE Tryd.prog (sStore 56 v10_38 v22_40) w44 fun _ w45 =>
    J5 [v9_42, v10_38] w45) ∧
    (xE Tryd.prog (sAlloc 56) w39 fun v9_46 w47 =>
    xStill Tryd.prog (sLoad 56 v5_3) v21_7 w47 <|
    xE Tryd.prog (sCall 20 #[v21_7]) w47 fun v22_48 w49 =>
    xE Tryd.prog (sStore 56 v9_46 v20_8) w49 fun _ w50 =>
    xE Tryd.prog (sStore 56 v10_38 v22_48) w50 fun _ w51 =>
    J5 [v9_46, v10_38] w51))) ∧
    (xE Tryd.prog (sAlloc 56) (w4.drew) fun v9_52 w53 =>
    xStill Tryd.prog (sLoad 56 v5_3) v21_7 w53 <|
    xStill Tryd.prog (sLoad 56 v4_1) v19_6 w53 <|
    (xE Tryd.prog (sCall 20 #[v19_6]) w53 fun v20_54 w55 =>
    xStill Tryd.prog (sLoad 56 v5_3) v21_7 w55 <|
    (xE Tryd.prog (sCall 20 #[v21_7]) w55 fun v22_56 w57 =>
    xE Tryd.prog (sAlloc 56) w57 fun v10_58 w59 =>
    xE Tryd.prog (sStore 56 v9_52 v20_54) w59 fun _ w60 =>
    xE Tryd.prog (sStore 56 v10_58 v22_56) w60 fun _ w61 =>
    J5 [v9_52, v10_58] w61) ∧
    (xE Tryd.prog (sAlloc 56) w55 fun v10_62 w63 =>
    xStill Tryd.prog (sLoad 56 v5_3) v21_7 w63 <|
    xE Tryd.prog (sCall 20 #[v21_7]) w63 fun v22_64 w65 =>
    xE Tryd.prog (sStore 56 v9_52 v20_54) w65 fun _ w66 =>
    xE Tryd.prog (sStore 56 v10_62 v22_64) w66 fun _ w67 =>
    J5 [v9_52, v10_62] w67)) ∧
    (xE Tryd.prog (sAlloc 56) w53 fun v10_68 w69 =>
    xStill Tryd.prog (sLoad 56 v5_3) v21_7 w69 <|
    xStill Tryd.prog (sLoad 56 v4_1) v19_6 w69 <|
    xE Tryd.prog (sCall 20 #[v19_6]) w69 fun v20_70 w71 =>
    xStill Tryd.prog (sLoad 56 v5_3) v21_7 w71 <|
    xE Tryd.prog (sCall 20 #[v21_7]) w71 fun v22_72 w73 =>
    xE Tryd.prog (sStore 56 v9_52 v20_70) w73 fun _ w74 =>
    xE Tryd.prog (sStore 56 v10_68 v22_72) w74 fun _ w75 =>
    J5 [v9_52, v10_68] w75)) ∧
    (xE Tryd.prog (sAlloc 56) (w4.drew) fun v10_76 w77 =>
    xStill Tryd.prog (sLoad 56 v5_3) v21_7 w77 <|
    xStill Tryd.prog (sLoad 56 v4_1) v19_6 w77 <|
    (xE Tryd.prog (sCall 20 #[v19_6]) w77 fun v20_78 w79 =>
    xStill Tryd.prog (sLoad 56 v5_3) v21_7 w79 <|
    (xE Tryd.prog (sCall 20 #[v21_7]) w79 fun v22_80 w81 =>
    xE Tryd.prog (sAlloc 56) w81 fun v9_82 w83 =>
    xE Tryd.prog (sStore 56 v9_82 v20_78) w83 fun _ w84 =>
    xE Tryd.prog (sStore 56 v10_76 v22_80) w84 fun _ w85 =>
    J5 [v9_82, v10_76] w85) ∧
    (xE Tryd.prog (sAlloc 56) w79 fun v9_86 w87 =>
    xStill Tryd.prog (sLoad 56 v5_3) v21_7 w87 <|
    xE Tryd.prog (sCall 20 #[v21_7]) w87 fun v22_88 w89 =>
    xE Tryd.prog (sStore 56 v9_86 v20_78) w89 fun _ w90 =>
    xE Tryd.prog (sStore 56 v10_76 v22_88) w90 fun _ w91 =>
    J5 [v9_86, v10_76] w91)) ∧
    (xE Tryd.prog (sAlloc 56) w77 fun v9_92 w93 =>
    xStill Tryd.prog (sLoad 56 v5_3) v21_7 w93 <|
    xStill Tryd.prog (sLoad 56 v4_1) v19_6 w93 <|
    xE Tryd.prog (sCall 20 #[v19_6]) w93 fun v20_94 w95 =>
    xStill Tryd.prog (sLoad 56 v5_3) v21_7 w95 <|
    xE Tryd.prog (sCall 20 #[v21_7]) w95 fun v22_96 w97 =>
    xE Tryd.prog (sStore 56 v9_92 v20_94) w97 fun _ w98 =>
    xE Tryd.prog (sStore 56 v10_76 v22_96) w98 fun _ w99 =>
    J5 [v9_92, v10_76] w99))) fun vs100 _ w102 =>
  xR Tryd.prog (sLoad 56 (vs100.getD 0 undef)) (w102.drew) fun v23_103 =>
  xR Tryd.prog (sLoad 56 (vs100.getD 1 undef)) (w102.drew) fun v25_104 =>
  xE Tryd.prog (sCall 21 #[v23_103]) (w102.drew) fun v24_105 w106 =>
  xStill Tryd.prog (sLoad 56 (vs100.getD 1 undef)) v25_104 w106 <|
  xE Tryd.prog (sCall 21 #[v25_104]) w106 fun v26_107 w108 =>
  xJoin (fun J109 =>
    xP Tryd.prog (sB .len #[57] #[v24_105]) fun v28_110 =>
    xR Tryd.prog (sEq .eql 3 true v28_110 (.int .i64 0)) w108 fun v29_111 =>
    xIf v29_111 (
    J109 [(.bool true)] w108) (
    xP Tryd.prog (sB .len #[57] #[v26_107]) fun v32_112 =>
    xR Tryd.prog (sEq .eql 3 true v32_112 (.int .i64 0)) w108 fun v33_113 =>
    J109 [v33_113] w108)) fun vs114 _ w116 =>
  xIf (vs114.getD 0 undef) (
    xP Tryd.prog (sB .len #[57] #[v24_105]) fun v36_117 =>
    xP Tryd.prog (sBin .gtr 3 v36_117 (.int .i64 0)) fun v37_118 =>
    xR Tryd.prog (sLoad 56 (vs100.getD 0 undef)) w116 fun v38_119 =>
    xE Tryd.prog (sCall 22 #[v38_119]) w116 fun v39_120 w121 =>
    xR Tryd.prog (sEq .eql 4 false v37_118 v39_120) w121 fun v40_122 =>
    xIf v40_122 (
    xP Tryd.prog (sB .len #[57] #[v26_107]) fun v43_123 =>
    xP Tryd.prog (sBin .gtr 3 v43_123 (.int .i64 0)) fun v44_124 =>
    xR Tryd.prog (sLoad 56 (vs100.getD 1 undef)) w121 fun v45_125 =>
    xE Tryd.prog (sCall 22 #[v45_125]) w121 fun v46_126 w127 =>
    xR Tryd.prog (sEq .eql 4 false v44_124 v46_126) w127 fun v47_128 =>
    xIf v47_128 (
    xE Tryd.prog (sCall 31 #[]) w127 fun v50_129 w130 =>
    R (.returned v50_129) w130) (
    R (.returned (.bool false)) w127)) (
    R (.returned (.bool false)) w121)) (
    xE Tryd.prog (sCall 27 #[v24_105]) w116 fun v54_131 w132 =>
  xP Tryd.prog (sExtract v54_131 0) fun v55_133 =>
  xP Tryd.prog (sExtract v54_131 1) fun v56_134 =>
  xE Tryd.prog (sAlloc 56) w132 fun v13_135 w136 =>
  xE Tryd.prog (sStore 56 v13_135 v55_133) w136 fun _ w137 =>
  xP Tryd.prog (sB .len #[57] #[v24_105]) fun v61_138 =>
  xP Tryd.prog (sBin .sub 3 v61_138 (.int .i64 1)) fun v62_139 =>
  xE Tryd.prog (sCall 16 #[a2, (.int .i64 0), v62_139]) w137 fun v63_140 w141 =>
  xP Tryd.prog (sSlice 57 v24_105 none (some v63_140) none) fun v64_142 =>
  xE Tryd.prog (sCall 27 #[v64_142]) w141 fun v65_143 w144 =>
  xP Tryd.prog (sExtract v65_143 0) fun v66_145 =>
  xP Tryd.prog (sExtract v65_143 1) fun v67_146 =>
  xE Tryd.prog (sAlloc 56) w144 fun v15_147 w148 =>
  xE Tryd.prog (sStore 56 v15_147 v66_145) w148 fun _ w149 =>
  xE Tryd.prog (sBuildSlice 57 0 #[]) w149 fun v69_150 w151 =>
  xE Tryd.prog (sB .append #[57, 57] #[v69_150, v24_105]) w151 fun v71_152 w153 =>
  xE Tryd.prog (sBuildSlice 57 1 #[(0, a3)]) w153 fun v73_154 w155 =>
  xE Tryd.prog (sB .append #[57, 57] #[v71_152, v73_154]) w155 fun v74_156 w157 =>
  xE Tryd.prog (sCall 27 #[v74_156]) w157 fun v75_158 w159 =>
  xP Tryd.prog (sExtract v75_158 0) fun v76_160 =>
  xP Tryd.prog (sExtract v75_158 1) fun v77_161 =>
  xE Tryd.prog (sAlloc 56) w159 fun v17_162 w163 =>
  xE Tryd.prog (sStore 56 v17_162 v76_160) w163 fun _ w164 =>
  xR Tryd.prog (sEq .eql 27 true v56_134 (.nilIface)) (w164.drew) fun v79_165 =>
  xIf v79_165 (
  xR Tryd.prog (sLoad 56 v13_135) (w164.drew) fun v81_166 =>
  xR Tryd.prog (sLoad 56 (vs100.getD 0 undef)) (w164.drew) fun v82_167 =>
  xE Tryd.prog (sCall 29 #[v81_166, v82_167]) (w164.drew) fun v83_168 w169 =>
  xIf v83_168 (
  xR Tryd.prog (sLoad 56 (vs100.getD 0 undef)) w169 fun v89_170 =>
  xR Tryd.prog (sLoad 56 (vs100.getD 1 undef)) w169 fun v90_171 =>
  xE Tryd.prog (sCall 24 #[v24_105, v26_107]) w169 fun v88_172 w173 =>
  xStill Tryd.prog (sLoad 56 (vs100.getD 1 undef)) v90_171 w173 <|
  xStill Tryd.prog (sLoad 56 (vs100.getD 0 undef)) v89_170 w173 <|
  xE Tryd.prog (sCall 29 #[v89_170, v90_171]) w173 fun v91_174 w175 =>
  xR Tryd.prog (sEq .eql 4 false v88_172 v91_174) w175 fun v92_176 =>
  xIf v92_176 (
  xE Tryd.prog (sCall 14 #[v67_146]) w175 fun v96_177 w178 =>
  xR Tryd.prog (sEq .eql 31 true v96_177 (.int .i64 3)) w178 fun v97_179 =>
  xIf v97_179 (
  xE Tryd.prog (sCall 14 #[v77_161]) w178 fun v101_180 w181 =>
  xR Tryd.prog (sEq .eql 31 true v101_180 (.int .i64 4)) w181 fun v102_182 =>
  xIf v102_182 (
  xE Tryd.prog (sCall 31 #[]) w181 fun v105_183 w184 =>
  R (.returned v105_183) w184) (
  R (.returned (.bool false)) w181)) (
  R (.returned (.bool false)) w178)) (
  R (.returned (.bool false)) w175)) (
  R (.returned (.bool false)) w169)) (
  R (.returned (.bool false)) (w164.drew)))
theorem C_stavelaw23_ReplyBack {a0 : Value} {a1 : Value} {a2 : Value} {a3 : Value} {w : World} {R : Ending → World → Prop} (h : S_stavelaw23_ReplyBack a0 a1 a2 a3 w R) : Calls Tryd.prog 10 #[a0, a1, a2, a3] w R :=
  funcVC_sound (an := A_stavelaw23_ReplyBack) (args := [a0, a1, a2, a3]) (k := 4) Tryd.func10 (by kernel_rfl) rfl
    (Eq.mp (show S_stavelaw23_ReplyBack a0 a1 a2 a3 w R = funcVC Tryd.prog Tryd.f10 A_stavelaw23_ReplyBack [a0, a1, a2, a3] w R by kernel_rfl) h)

/-- stave/dedup.New -/
def A_dedup_New : Ann := .nil
def S_dedup_New (w : World) (R : Ending → World → Prop) : Prop :=
  xE Tryd.prog (sMakeMap 37 none) w fun v1_1 w2 =>
  xP Tryd.prog (sBuild 72 #[(0, v1_1)]) fun v2_3 =>
  xE Tryd.prog (sBox 72 v2_3) w2 fun v3_4 w5 =>
  R (.returned v3_4) w5
theorem C_dedup_New {w : World} {R : Ending → World → Prop} (h : S_dedup_New  w R) : Calls Tryd.prog 11 #[] w R :=
  funcVC_sound (an := A_dedup_New) (args := []) (k := 0) Tryd.func11 (by kernel_rfl) rfl
    (Eq.mp (show S_dedup_New  w R = funcVC Tryd.prog Tryd.f11 A_dedup_New [] w R by kernel_rfl) h)

/-- (*stave/dedup.Dedup).Ask -/
def A_dedup_Dedup_Ask : Ann := (.seq .nil (.seq .nil (.seq (.join [28] .nil .nil) (.seq .nil (.seq .nil (.join [11] .nil (.seq (.one (.join [46] .nil .nil)) .nil)))))))
def S_dedup_Dedup_Ask (a0 : Value) (a1 : Value) (a2 : Value) (w : World) (R : Ending → World → Prop) : Prop :=
  xE Tryd.prog (sAlloc 25) w fun v6_1 w2 =>
  xR Tryd.prog (sEq .eql 3 true a1 (.int .i64 0)) w2 fun v13_3 =>
  xIf v13_3 (
    xP Tryd.prog (sBuild 25 #[]) fun v14_4 =>
    xE Tryd.prog (sStore 25 v6_1 v14_4) w2 fun _ w5 =>
    xR Tryd.prog (sLoad 25 v6_1) w5 fun r6 => R (.returned (.tuple #[r6, (.bool false), (.nilIface)])) w5) (
    xJoin (fun J7 =>
    xP Tryd.prog (sBin .lss 3 a1 (.int .i64 0)) fun v16_8 =>
    xIf v16_8 (
    J7 [(.bool true)] w2) (
    xP Tryd.prog (sBin .gtr 3 a1 (.int .i64 1048576)) fun v19_9 =>
    xIf v19_9 (
    J7 [(.bool true)] w2) (
    xP Tryd.prog (sBin .lss 3 a2 (.int .i64 0)) fun v23_10 =>
    xIf v23_10 (
    J7 [(.bool true)] w2) (
    xP Tryd.prog (sBin .gtr 3 a2 (.int .i64 1099511627776)) fun v27_11 =>
    J7 [v27_11] w2)))) fun vs12 _ w14 =>
  xIf (vs12.getD 0 undef) (
    xP Tryd.prog (sBuild 25 #[]) fun v29_15 =>
    xP Tryd.prog (sIface 31 (.int .i64 1)) fun v31_16 =>
    xE Tryd.prog (sCall 32 #[(.string (ByteArray.mk #[100, 101, 100, 117, 112, 46, 65, 115, 107])), a1, v31_16]) w14 fun v32_17 w18 =>
    xE Tryd.prog (sStore 25 v6_1 v29_15) w18 fun _ w19 =>
    xR Tryd.prog (sLoad 25 v6_1) w19 fun r20 => R (.returned (.tuple #[r20, (.bool false), v32_17])) w19) (
    xP Tryd.prog (sNil a0) fun v35_21 =>
  xP Tryd.prog (sFA 72 v35_21 0) fun v36_22 =>
  xR Tryd.prog (sLoad 37 v36_22) w14 fun v37_23 =>
  xR Tryd.prog (sLookup 37 v37_23 a1 true) w14 fun v39_24 =>
  xP Tryd.prog (sExtract v39_24 0) fun v40_25 =>
  xP Tryd.prog (sExtract v39_24 1) fun v41_26 =>
  xE Tryd.prog (sAlloc 25) w14 fun v9_27 w28 =>
  xE Tryd.prog (sStore 25 v9_27 v40_25) w28 fun _ w29 =>
  xJoin (fun J30 =>
    xIf v41_26 (
      xP Tryd.prog (sFA 25 v9_27 0) fun v43_31 =>
      xR Tryd.prog (sLoad 3 v43_31) w29 fun v44_32 =>
      xP Tryd.prog (sBin .add 3 v44_32 (.int .i64 1)) fun v45_33 =>
      J30 [v45_33] w29) (
      J30 [(.int .i64 0)] w29)) fun vs34 _ w36 =>
  xJoin (fun J37 =>
    xIf v41_26 (
    xP Tryd.prog (sFA 25 v9_27 0) fun v50_38 =>
    xR Tryd.prog (sLoad 3 v50_38) w36 fun v51_39 =>
    xR Tryd.prog (sEq .eql 3 false a2 v51_39) w36 fun v52_40 =>
    J37 [v52_40] w36) (
    J37 [(.bool false)] w36)) fun vs41 _ w43 =>
  xIf (vs41.getD 0 undef) (
    xR Tryd.prog (sLoad 25 v9_27) w43 fun v54_44 =>
    xE Tryd.prog (sStore 25 v6_1 v54_44) w43 fun _ w45 =>
    xR Tryd.prog (sLoad 25 v6_1) w45 fun r46 => R (.returned (.tuple #[r46, (.bool true), (.nilIface)])) w45) (
    xR Tryd.prog (sEq .eql 3 false a2 (vs34.getD 0 undef)) w43 fun v58_47 =>
    xIf v58_47 (
      xP Tryd.prog (sBuild 25 #[]) fun v59_48 =>
      xE Tryd.prog (sStore 25 v6_1 v59_48) w43 fun _ w49 =>
      xR Tryd.prog (sLoad 25 v6_1) w49 fun r50 => R (.returned (.tuple #[r50, (.bool false), (.nilIface)])) w49) (
      xP Tryd.prog (sBuild 25 #[]) fun v60_51 =>
  xP Tryd.prog (sIface 31 (.int .i64 12)) fun v62_52 =>
  xE Tryd.prog (sCall 32 #[(.string (ByteArray.mk #[100, 101, 100, 117, 112, 46, 65, 115, 107])), a1, v62_52]) w43 fun v63_53 w54 =>
  xE Tryd.prog (sStore 25 v6_1 v60_51) w54 fun _ w55 =>
  xR Tryd.prog (sLoad 25 v6_1) w55 fun r56 => R (.returned (.tuple #[r56, (.bool false), v63_53])) w55))))
theorem C_dedup_Dedup_Ask {a0 : Value} {a1 : Value} {a2 : Value} {w : World} {R : Ending → World → Prop} (h : S_dedup_Dedup_Ask a0 a1 a2 w R) : Calls Tryd.prog 12 #[a0, a1, a2] w R :=
  funcVC_sound (an := A_dedup_Dedup_Ask) (args := [a0, a1, a2]) (k := 3) Tryd.func12 (by kernel_rfl) rfl
    (Eq.mp (show S_dedup_Dedup_Ask a0 a1 a2 w R = funcVC Tryd.prog Tryd.f12 A_dedup_Dedup_Ask [a0, a1, a2] w R by kernel_rfl) h)

/-- (*stave/dedup.Dedup).Note -/
def A_dedup_Dedup_Note : Ann := (.seq .nil (.seq .nil (.seq (.draw (.pre [0, 1, 2, 3, 4, 5, 6] .nil) [0, 1, 3, 7, 0, 0, 63]) .nil)))
def S_dedup_Dedup_Note (a0 : Value) (a1 : Value) (a2 : Value) (w : World) (R : Ending → World → Prop) : Prop :=
  xE Tryd.prog (sBox 25 a2) w fun v5_1 w2 =>
  xR Tryd.prog (sEq .neq 3 true a1 (.int .i64 0)) w2 fun v7_3 =>
  xIf v7_3 (
    xP Tryd.prog (sNil a0) fun v9_4 =>
    xP Tryd.prog (sFA 72 v9_4 0) fun v10_5 =>
    xR Tryd.prog (sLoad 37 v10_5) (w2.drew) fun v11_6 =>
    xR Tryd.prog (sLoad 25 v5_1) (w2.drew) fun v13_7 =>
    xE Tryd.prog (sMapUpdate 37 v11_6 a1 v13_7) (w2.drew) fun _ w8 =>
    R (.returned (.tuple #[])) w8) (
    R (.returned (.tuple #[])) w2)
theorem C_dedup_Dedup_Note {a0 : Value} {a1 : Value} {a2 : Value} {w : World} {R : Ending → World → Prop} (h : S_dedup_Dedup_Note a0 a1 a2 w R) : Calls Tryd.prog 13 #[a0, a1, a2] w R :=
  funcVC_sound (an := A_dedup_Dedup_Note) (args := [a0, a1, a2]) (k := 3) Tryd.func13 (by kernel_rfl) rfl
    (Eq.mp (show S_dedup_Dedup_Note a0 a1 a2 w R = funcVC Tryd.prog Tryd.f13 A_dedup_Dedup_Note [a0, a1, a2] w R by kernel_rfl) h)

/-- stave/fault.Kind -/
def A_fault_Kind : Ann := .nil
def S_fault_Kind (a0 : Value) (w : World) (R : Ending → World → Prop) : Prop :=
  xE Tryd.prog (sAlloc 31) w fun v3_1 w2 =>
  xP Tryd.prog (sIface 75 v3_1) fun v6_3 =>
  xE Tryd.prog (sCall 33 #[a0, v6_3]) w2 fun v7_4 w5 =>
  xIf v7_4 (
    xR Tryd.prog (sLoad 31 v3_1) w5 fun v8_6 =>
    R (.returned v8_6) w5) (
    xP Tryd.prog (sIface 31 (.int .i64 6)) fun v11_7 =>
    xE Tryd.prog (sCall 34 #[a0, v11_7]) w5 fun v12_8 w9 =>
    xIf v12_8 (
      R (.returned (.int .i64 6)) w9) (
      R (.returned (.int .i64 0)) w9))
theorem C_fault_Kind {a0 : Value} {w : World} {R : Ending → World → Prop} (h : S_fault_Kind a0 w R) : Calls Tryd.prog 14 #[a0] w R :=
  funcVC_sound (an := A_fault_Kind) (args := [a0]) (k := 1) Tryd.func14 (by kernel_rfl) rfl
    (Eq.mp (show S_fault_Kind a0 w R = funcVC Tryd.prog Tryd.f14 A_fault_Kind [a0] w R by kernel_rfl) h)

/-- (*stave/dedup.Dedup).Len -/
def A_dedup_Dedup_Len : Ann := .nil
def S_dedup_Dedup_Len (a0 : Value) (w : World) (R : Ending → World → Prop) : Prop :=
  xP Tryd.prog (sNil a0) fun v4_1 =>
  xP Tryd.prog (sFA 72 v4_1 0) fun v5_2 =>
  xR Tryd.prog (sLoad 37 v5_2) w fun v6_3 =>
  xR Tryd.prog (sB .len #[37] #[v6_3]) w fun v7_4 =>
  R (.returned v7_4) w
theorem C_dedup_Dedup_Len {a0 : Value} {w : World} {R : Ending → World → Prop} (h : S_dedup_Dedup_Len a0 w R) : Calls Tryd.prog 15 #[a0] w R :=
  funcVC_sound (an := A_dedup_Dedup_Len) (args := [a0]) (k := 1) Tryd.func15 (by kernel_rfl) rfl
    (Eq.mp (show S_dedup_Dedup_Len a0 w R = funcVC Tryd.prog Tryd.f15 A_dedup_Dedup_Len [a0] w R by kernel_rfl) h)

/-- stave/stavebook.Within -/
def A_stavebook_Within : Ann := (.seq .nil (.seq .nil (.join [0] .nil .nil)))
def S_stavebook_Within (a0 : Value) (a1 : Value) (a2 : Value) (w : World) (R : Ending → World → Prop) : Prop :=
  xP Tryd.prog (sBin .sub 3 a2 a1) fun v10_1 =>
  xP Tryd.prog (sBin .add 3 v10_1 (.int .i64 1)) fun v11_2 =>
  xP Tryd.prog (sBin .rem 3 a0 v11_2) fun v12_3 =>
  xJoin (fun J4 =>
    xP Tryd.prog (sBin .lss 3 v12_3 (.int .i64 0)) fun v14_5 =>
    xIf v14_5 (
      xP Tryd.prog (sBin .add 3 v12_3 a2) fun v17_6 =>
      xP Tryd.prog (sBin .sub 3 v17_6 a1) fun v19_7 =>
      xP Tryd.prog (sBin .add 3 v19_7 (.int .i64 1)) fun v20_8 =>
      J4 [v20_8] w) (
      J4 [v12_3] w)) fun vs9 _ w11 =>
  xP Tryd.prog (sBin .add 3 a1 (vs9.getD 0 undef)) fun v23_12 =>
  R (.returned v23_12) w11
theorem C_stavebook_Within {a0 : Value} {a1 : Value} {a2 : Value} {w : World} {R : Ending → World → Prop} (h : S_stavebook_Within a0 a1 a2 w R) : Calls Tryd.prog 16 #[a0, a1, a2] w R :=
  funcVC_sound (an := A_stavebook_Within) (args := [a0, a1, a2]) (k := 3) Tryd.func16 (by kernel_rfl) rfl
    (Eq.mp (show S_stavebook_Within a0 a1 a2 w R = funcVC Tryd.prog Tryd.f16 A_stavebook_Within [a0, a1, a2] w R by kernel_rfl) h)

/-- (*stave/staveref14.Dedup).Note -/
def A_staveref14_Dedup_Note : Ann := (.seq .nil (.seq .nil (.seq (.draw (.pre [0, 1, 2, 3, 4, 5, 6] .nil) [0, 1, 3, 7, 0, 0, 63]) .nil)))
def S_staveref14_Dedup_Note (a0 : Value) (a1 : Value) (a2 : Value) (w : World) (R : Ending → World → Prop) : Prop :=
  xE Tryd.prog (sBox 25 a2) w fun v5_1 w2 =>
  xR Tryd.prog (sEq .neq 3 true a1 (.int .i64 0)) w2 fun v7_3 =>
  xIf v7_3 (
    xP Tryd.prog (sNil a0) fun v9_4 =>
    xP Tryd.prog (sFA 39 v9_4 0) fun v10_5 =>
    xR Tryd.prog (sLoad 37 v10_5) (w2.drew) fun v11_6 =>
    xR Tryd.prog (sLoad 25 v5_1) (w2.drew) fun v13_7 =>
    xE Tryd.prog (sMapUpdate 37 v11_6 a1 v13_7) (w2.drew) fun _ w8 =>
    R (.returned (.tuple #[])) w8) (
    R (.returned (.tuple #[])) w2)
theorem C_staveref14_Dedup_Note {a0 : Value} {a1 : Value} {a2 : Value} {w : World} {R : Ending → World → Prop} (h : S_staveref14_Dedup_Note a0 a1 a2 w R) : Calls Tryd.prog 17 #[a0, a1, a2] w R :=
  funcVC_sound (an := A_staveref14_Dedup_Note) (args := [a0, a1, a2]) (k := 3) Tryd.func17 (by kernel_rfl) rfl
    (Eq.mp (show S_staveref14_Dedup_Note a0 a1 a2 w R = funcVC Tryd.prog Tryd.f17 A_staveref14_Dedup_Note [a0, a1, a2] w R by kernel_rfl) h)

/-- (*stave/staveref14.Dedup).Ask -/
def A_staveref14_Dedup_Ask : Ann := (.seq .nil (.seq .nil (.seq (.join [27] .nil .nil) (.seq .nil (.seq (.one (.join [38] .nil (.seq .nil (.join [56] .nil .nil)))) .nil)))))
def S_staveref14_Dedup_Ask (a0 : Value) (a1 : Value) (a2 : Value) (w : World) (R : Ending → World → Prop) : Prop :=
  xE Tryd.prog (sAlloc 25) w fun v6_1 w2 =>
  xR Tryd.prog (sEq .eql 3 true a1 (.int .i64 0)) w2 fun v12_3 =>
  xIf v12_3 (
    xP Tryd.prog (sBuild 25 #[]) fun v13_4 =>
    xE Tryd.prog (sStore 25 v6_1 v13_4) w2 fun _ w5 =>
    xR Tryd.prog (sLoad 25 v6_1) w5 fun r6 => R (.returned (.tuple #[r6, (.int .i64 0), (.int .i64 0)])) w5) (
    xJoin (fun J7 =>
    xP Tryd.prog (sBin .lss 3 a1 (.int .i64 0)) fun v15_8 =>
    xIf v15_8 (
    J7 [(.bool true)] w2) (
    xP Tryd.prog (sBin .gtr 3 a1 (.int .i64 1048576)) fun v18_9 =>
    xIf v18_9 (
    J7 [(.bool true)] w2) (
    xP Tryd.prog (sBin .lss 3 a2 (.int .i64 0)) fun v22_10 =>
    xIf v22_10 (
    J7 [(.bool true)] w2) (
    xP Tryd.prog (sBin .gtr 3 a2 (.int .i64 1099511627776)) fun v26_11 =>
    J7 [v26_11] w2)))) fun vs12 _ w14 =>
  xIf (vs12.getD 0 undef) (
    xP Tryd.prog (sBuild 25 #[]) fun v28_15 =>
    xE Tryd.prog (sStore 25 v6_1 v28_15) w14 fun _ w16 =>
    xR Tryd.prog (sLoad 25 v6_1) w16 fun r17 => R (.returned (.tuple #[r17, (.int .i64 0), (.int .i64 1)])) w16) (
    xP Tryd.prog (sNil a0) fun v31_18 =>
  xP Tryd.prog (sFA 39 v31_18 0) fun v32_19 =>
  xR Tryd.prog (sLoad 37 v32_19) w14 fun v33_20 =>
  xR Tryd.prog (sLookup 37 v33_20 a1 true) w14 fun v35_21 =>
  xP Tryd.prog (sExtract v35_21 0) fun v36_22 =>
  xP Tryd.prog (sExtract v35_21 1) fun v37_23 =>
  xE Tryd.prog (sAlloc 25) w14 fun v9_24 w25 =>
  xE Tryd.prog (sStore 25 v9_24 v36_22) w25 fun _ w26 =>
  xJoin (fun J27 =>
    xP Tryd.prog (sUn .not v37_23) fun v40_28 =>
    xIf v40_28 (
    xR Tryd.prog (sEq .eql 3 true a2 (.int .i64 0)) w26 fun v43_29 =>
    xIf v43_29 (
    J27 [(.bool true)] w26) (
    xIf v37_23 (
    xP Tryd.prog (sFA 25 v9_24 0) fun v49_30 =>
    xR Tryd.prog (sLoad 3 v49_30) w26 fun v50_31 =>
    xP Tryd.prog (sBin .add 3 v50_31 (.int .i64 1)) fun v51_32 =>
    xR Tryd.prog (sEq .eql 3 false a2 v51_32) w26 fun v52_33 =>
    J27 [v52_33] w26) (
    J27 [(.bool false)] w26))) (
    xIf v37_23 (
    xP Tryd.prog (sFA 25 v9_24 0) fun v49_34 =>
    xR Tryd.prog (sLoad 3 v49_34) w26 fun v50_35 =>
    xP Tryd.prog (sBin .add 3 v50_35 (.int .i64 1)) fun v51_36 =>
    xR Tryd.prog (sEq .eql 3 false a2 v51_36) w26 fun v52_37 =>
    J27 [v52_37] w26) (
    J27 [(.bool false)] w26))) fun vs38 _ w40 =>
  xIf (vs38.getD 0 undef) (
    xP Tryd.prog (sBuild 25 #[]) fun v55_41 =>
    xE Tryd.prog (sStore 25 v6_1 v55_41) w40 fun _ w42 =>
    xR Tryd.prog (sLoad 25 v6_1) w42 fun r43 => R (.returned (.tuple #[r43, (.int .i64 0), (.int .i64 0)])) w42) (
    xJoin (fun J44 =>
      xIf v37_23 (
      xP Tryd.prog (sFA 25 v9_24 0) fun v60_45 =>
      xR Tryd.prog (sLoad 3 v60_45) w40 fun v61_46 =>
      xR Tryd.prog (sEq .eql 3 false a2 v61_46) w40 fun v62_47 =>
      J44 [v62_47] w40) (
      J44 [(.bool false)] w40)) fun vs48 _ w50 =>
    xIf (vs48.getD 0 undef) (
      xR Tryd.prog (sLoad 25 v9_24) w50 fun v64_51 =>
      xE Tryd.prog (sStore 25 v6_1 v64_51) w50 fun _ w52 =>
      xR Tryd.prog (sLoad 25 v6_1) w52 fun r53 => R (.returned (.tuple #[r53, (.int .i64 1), (.int .i64 0)])) w52) (
      xP Tryd.prog (sBuild 25 #[]) fun v65_54 =>
  xE Tryd.prog (sStore 25 v6_1 v65_54) w50 fun _ w55 =>
  xR Tryd.prog (sLoad 25 v6_1) w55 fun r56 => R (.returned (.tuple #[r56, (.int .i64 0), (.int .i64 12)])) w55))))
theorem C_staveref14_Dedup_Ask {a0 : Value} {a1 : Value} {a2 : Value} {w : World} {R : Ending → World → Prop} (h : S_staveref14_Dedup_Ask a0 a1 a2 w R) : Calls Tryd.prog 18 #[a0, a1, a2] w R :=
  funcVC_sound (an := A_staveref14_Dedup_Ask) (args := [a0, a1, a2]) (k := 3) Tryd.func18 (by kernel_rfl) rfl
    (Eq.mp (show S_staveref14_Dedup_Ask a0 a1 a2 w R = funcVC Tryd.prog Tryd.f18 A_staveref14_Dedup_Ask [a0, a1, a2] w R by kernel_rfl) h)

/-- (*stave/dedup.Dedup).Twin -/
def A_dedup_Dedup_Twin : Ann := .nil
def S_dedup_Dedup_Twin (a0 : Value) (w : World) (R : Ending → World → Prop) : Prop :=
  xP Tryd.prog (sNil a0) fun v4_1 =>
  xP Tryd.prog (sFA 72 v4_1 0) fun v5_2 =>
  xR Tryd.prog (sLoad 37 v5_2) w fun v6_3 =>
  xE Tryd.prog (sCall 35 #[v6_3]) w fun v7_4 w5 =>
  xP Tryd.prog (sBuild 72 #[(0, v7_4)]) fun v8_6 =>
  xE Tryd.prog (sBox 72 v8_6) w5 fun v9_7 w8 =>
  R (.returned v9_7) w8
theorem C_dedup_Dedup_Twin {a0 : Value} {w : World} {R : Ending → World → Prop} (h : S_dedup_Dedup_Twin a0 w R) : Calls Tryd.prog 19 #[a0] w R :=
  funcVC_sound (an := A_dedup_Dedup_Twin) (args := [a0]) (k := 1) Tryd.func19 (by kernel_rfl) rfl
    (Eq.mp (show S_dedup_Dedup_Twin a0 w R = funcVC Tryd.prog Tryd.f19 A_dedup_Dedup_Twin [a0] w R by kernel_rfl) h)

/-- stave/stavelaw23.few -/
def A_stavelaw23_few : Ann := (.seq .nil (.seq .nil (.seq .nil (.seq (.seq .nil (.one (.loop [3, 5] (.seq (.join [15] .nil .nil) (.seq (.one (.draw (.pre [0, 1, 2, 3, 4, 5, 6, 7, 8, 9, 10, 11, 12, 13, 14, 15, 16] .nil) [0, 0, 2, 0, 14, 30, 0, 64, 0, 448, 960, 1984, 4032, 8190, 16382, 32767, 65535])) .nil))))) (.seq (.seq .nil (.one (.loop [4, 6] (.seq (.join [42] .nil .nil) (.seq (.one (.draw (.pre [0, 1, 2, 3, 4, 5, 6, 7, 8, 9, 10, 11, 12, 13, 14, 15, 16, 17, 18, 19, 20, 21, 22, 23, 24, 25] .nil) [0, 0, 2, 0, 14, 30, 62, 0, 128, 0, 896, 1920, 3968, 0, 8192, 0, 57344, 122880, 253952, 516096, 1040384, 2097024, 4194302, 8388606, 16777215, 33554431])) .nil))))) .nil)))))
def S_stavelaw23_few (a0 : Value) (w : World) (R : Ending → World → Prop) : Prop :=
  xE Tryd.prog (sBox 56 a0) w fun v1_1 w2 =>
  xE Tryd.prog (sAlloc 56) w2 fun v2_3 w4 =>
  xLoop [(.slice none 0 0), (.int .i64 0)] w4 fun J5 vs6 _ w8 =>
    xJoin (fun J9 =>
      xP Tryd.prog (sFA 56 v1_1 4) fun v8_10 =>
      xR Tryd.prog (sLoad 53 v8_10) w8 fun v9_11 =>
      xP Tryd.prog (sB .len #[53] #[v9_11]) fun v10_12 =>
      xP Tryd.prog (sBin .lss 3 (vs6.getD 1 undef) v10_12) fun v11_13 =>
      xIf v11_13 (
      xP Tryd.prog (sBin .lss 3 (vs6.getD 1 undef) (.int .i64 10)) fun v14_14 =>
      J9 [v14_14] w8) (
      J9 [(.bool false)] w8)) fun vs15 _ w17 =>
    xIf (vs15.getD 0 undef) (
      xP Tryd.prog (sFA 56 v1_1 4) fun v19_18 =>
    xR Tryd.prog (sLoad 53 v19_18) (w17.drew) fun v20_19 =>
    xP Tryd.prog (sIA 53 v20_19 (vs6.getD 1 undef)) fun v22_20 =>
    xR Tryd.prog (sLoad 9 v22_20) (w17.drew) fun v23_21 =>
    xP Tryd.prog (sFA 56 v1_1 4) fun v24_22 =>
    xR Tryd.prog (sLoad 53 v24_22) (w17.drew) fun v25_23 =>
    xP Tryd.prog (sIA 53 v25_23 (vs6.getD 1 undef)) fun v27_24 =>
    xR Tryd.prog (sLoad 9 v27_24) (w17.drew) fun v28_25 =>
    xP Tryd.prog (sB .len #[9] #[v28_25]) fun v29_26 =>
    xP Tryd.prog (sB .min #[3, 3] #[v29_26, (.int .i64 30)]) fun v30_27 =>
    xP Tryd.prog (sSlice 9 v23_21 none (some v30_27) none) fun v31_28 =>
    xE Tryd.prog (sBuildSlice 53 1 #[(0, v31_28)]) (w17.drew) fun v32_29 w30 =>
    xE Tryd.prog (sB .append #[53, 53] #[(vs6.getD 0 undef), v32_29]) w30 fun v33_31 w32 =>
    xP Tryd.prog (sBin .add 3 (vs6.getD 1 undef) (.int .i64 1)) fun v17_33 =>
    J5 [v33_31, v17_33] w32) (
      xLoop [(.slice none 0 0), (.int .i64 0)] w17 fun J34 vs35 _ w37 =>
    xJoin (fun J38 =>
      xP Tryd.prog (sFA 56 v1_1 5) fun v35_39 =>
      xR Tryd.prog (sLoad 54 v35_39) w37 fun v36_40 =>
      xP Tryd.prog (sB .len #[54] #[v36_40]) fun v37_41 =>
      xP Tryd.prog (sBin .lss 3 (vs35.getD 1 undef) v37_41) fun v38_42 =>
      xIf v38_42 (
      xP Tryd.prog (sBin .lss 3 (vs35.getD 1 undef) (.int .i64 6)) fun v41_43 =>
      J38 [v41_43] w37) (
      J38 [(.bool false)] w37)) fun vs44 _ w46 =>
    xIf (vs44.getD 0 undef) (
      xP Tryd.prog (sFA 56 v1_1 5) fun v46_47 =>
    xR Tryd.prog (sLoad 54 v46_47) (w46.drew) fun v47_48 =>
    xP Tryd.prog (sIA 54 v47_48 (vs35.getD 1 undef)) fun v49_49 =>
    xP Tryd.prog (sFA 79 v49_49 0) fun v50_50 =>
    xR Tryd.prog (sLoad 3 v50_50) (w46.drew) fun v51_51 =>
    xP Tryd.prog (sFA 56 v1_1 5) fun v52_52 =>
    xR Tryd.prog (sLoad 54 v52_52) (w46.drew) fun v53_53 =>
    xP Tryd.prog (sIA 54 v53_53 (vs35.getD 1 undef)) fun v55_54 =>
    xP Tryd.prog (sFA 79 v55_54 1) fun v56_55 =>
    xR Tryd.prog (sLoad 9 v56_55) (w46.drew) fun v57_56 =>
    xP Tryd.prog (sFA 56 v1_1 5) fun v58_57 =>
    xR Tryd.prog (sLoad 54 v58_57) (w46.drew) fun v59_58 =>
    xP Tryd.prog (sIA 54 v59_58 (vs35.getD 1 undef)) fun v61_59 =>
    xP Tryd.prog (sFA 79 v61_59 1) fun v62_60 =>
    xR Tryd.prog (sLoad 9 v62_60) (w46.drew) fun v63_61 =>
    xP Tryd.prog (sB .len #[9] #[v63_61]) fun v64_62 =>
    xP Tryd.prog (sB .min #[3, 3] #[v64_62, (.int .i64 610)]) fun v65_63 =>
    xP Tryd.prog (sSlice 9 v57_56 none (some v65_63) none) fun v66_64 =>
    xP Tryd.prog (sBuild 79 #[(0, v51_51), (1, v66_64)]) fun v67_65 =>
    xE Tryd.prog (sBuildSlice 54 1 #[(0, v67_65)]) (w46.drew) fun v68_66 w67 =>
    xE Tryd.prog (sB .append #[54, 54] #[(vs35.getD 0 undef), v68_66]) w67 fun v69_68 w69 =>
    xP Tryd.prog (sBin .add 3 (vs35.getD 1 undef) (.int .i64 1)) fun v44_70 =>
    J34 [v69_68, v44_70] w69) (
      xP Tryd.prog (sFA 56 v1_1 4) fun v72_71 =>
  xE Tryd.prog (sStore 53 v72_71 (vs6.getD 0 undef)) w46 fun _ w72 =>
  xP Tryd.prog (sFA 56 v1_1 5) fun v73_73 =>
  xE Tryd.prog (sStore 54 v73_73 (vs35.getD 0 undef)) w72 fun _ w74 =>
  xR Tryd.prog (sLoad 56 v1_1) w74 fun v74_75 =>
  xE Tryd.prog (sStore 56 v2_3 v74_75) w74 fun _ w76 =>
  xR Tryd.prog (sLoad 56 v2_3) w76 fun r77 => R (.returned r77) w76))
theorem C_stavelaw23_few {a0 : Value} {w : World} {R : Ending → World → Prop} (h : S_stavelaw23_few a0 w R) : Calls Tryd.prog 20 #[a0] w R :=
  funcVC_sound (an := A_stavelaw23_few) (args := [a0]) (k := 1) Tryd.func20 (by kernel_rfl) rfl
    (Eq.mp (show S_stavelaw23_few a0 w R = funcVC Tryd.prog Tryd.f20 A_stavelaw23_few [a0] w R by kernel_rfl) h)

/-- stave/reply.Put -/
def A_reply_Put : Ann := .nil
def S_reply_Put (a0 : Value) (w : World) (R : Ending → World → Prop) : Prop :=
  xE Tryd.prog (sBox 56 a0) w fun v1_1 w2 =>
  xR Tryd.prog (sLoad 56 v1_1) w2 fun v5_3 =>
  xE Tryd.prog (sCall 22 #[v5_3]) w2 fun v6_4 w5 =>
  xP Tryd.prog (sUn .not v6_4) fun v7_6 =>
  xIf v7_6 (
    R (.returned (.slice none 0 0)) w5) (
    xR Tryd.prog (sLoad 56 v1_1) w5 fun v9_7 =>
  xE Tryd.prog (sCall 36 #[v9_7]) w5 fun v10_8 w9 =>
  xP Tryd.prog (sExtract v10_8 0) fun v11_10 =>
  xP Tryd.prog (sExtract v10_8 1) fun _ =>
  R (.returned v11_10) w9)
theorem C_reply_Put {a0 : Value} {w : World} {R : Ending → World → Prop} (h : S_reply_Put a0 w R) : Calls Tryd.prog 21 #[a0] w R :=
  funcVC_sound (an := A_reply_Put) (args := [a0]) (k := 1) Tryd.func21 (by kernel_rfl) rfl
    (Eq.mp (show S_reply_Put a0 w R = funcVC Tryd.prog Tryd.f21 A_reply_Put [a0] w R by kernel_rfl) h)

/-- stave/reply.Right -/
def A_reply_Right : Ann := .nil
def S_reply_Right (a0 : Value) (w : World) (R : Ending → World → Prop) : Prop :=
  xE Tryd.prog (sBox 56 a0) w fun v1_1 w2 =>
  xR Tryd.prog (sLoad 56 v1_1) w2 fun v6_3 =>
  xE Tryd.prog (sCall 36 #[v6_3]) w2 fun v7_4 w5 =>
  xP Tryd.prog (sExtract v7_4 0) fun _ =>
  xP Tryd.prog (sExtract v7_4 1) fun v9_7 =>
  xR Tryd.prog (sEq .eql 27 true v9_7 (.nilIface)) w5 fun v11_8 =>
  xIf v11_8 (
  xP Tryd.prog (sFA 56 v1_1 5) fun v13_9 =>
  xR Tryd.prog (sLoad 54 v13_9) w5 fun v14_10 =>
  xE Tryd.prog (sCall 37 #[v14_10, (.func (.func 38) #[] #[])]) w5 fun v15_11 w12 =>
  xP Tryd.prog (sUn .not v15_11) fun v16_13 =>
  R (.returned v16_13) w12) (
  R (.returned (.bool false)) w5)
theorem C_reply_Right {a0 : Value} {w : World} {R : Ending → World → Prop} (h : S_reply_Right a0 w R) : Calls Tryd.prog 22 #[a0] w R :=
  funcVC_sound (an := A_reply_Right) (args := [a0]) (k := 1) Tryd.func22 (by kernel_rfl) rfl
    (Eq.mp (show S_reply_Right a0 w R = funcVC Tryd.prog Tryd.f22 A_reply_Right [a0] w R by kernel_rfl) h)

/-- stave/staveref19.RightReply -/
def A_staveref19_RightReply : Ann := (.seq .nil (.seq (.seq .nil (.one (.loop [11] .nil))) (.seq (.draw (.pre [1, 0, 2, 3, 4, 5, 6, 7, 8, 9, 10] .nil) [0, 0, 3, 7, 15, 31, 31, 31, 63, 383, 1023]) .nil)))
def S_staveref19_RightReply (a0 : Value) (w : World) (R : Ending → World → Prop) : Prop :=
  xE Tryd.prog (sBox 56 a0) w fun v1_1 w2 =>
  xP Tryd.prog (sFA 56 v1_1 5) fun v8_3 =>
  xR Tryd.prog (sLoad 54 v8_3) w2 fun v9_4 =>
  xP Tryd.prog (sB .len #[54] #[v9_4]) fun v10_5 =>
  xLoop [(.int .i64 0)] w2 fun J6 vs7 _ w9 =>
    xP Tryd.prog (sBin .lss 3 (vs7.getD 0 undef) v10_5) fun v12_10 =>
    xIf v12_10 (
      xP Tryd.prog (sIA 54 v9_4 (vs7.getD 0 undef)) fun v13_11 =>
    xR Tryd.prog (sLoad 79 v13_11) w9 fun v14_12 =>
    xE Tryd.prog (sAlloc 79) w9 fun v4_13 w14 =>
    xE Tryd.prog (sStore 79 v4_13 v14_12) w14 fun _ w15 =>
    xP Tryd.prog (sFA 79 v4_13 0) fun v15_16 =>
    xR Tryd.prog (sLoad 3 v15_16) w15 fun v16_17 =>
    xP Tryd.prog (sBin .lss 3 v16_17 (.int .i64 0)) fun v17_18 =>
    xIf v17_18 (
      R (.returned (.bool false)) w15) (
      xP Tryd.prog (sBin .add 3 (vs7.getD 0 undef) (.int .i64 1)) fun v18_19 =>
    J6 [v18_19] w15)) (
      xR Tryd.prog (sLoad 56 v1_1) (w9.drew) fun v21_20 =>
  xE Tryd.prog (sCall 40 #[]) (w9.drew) fun v20_21 w22 =>
  xStill Tryd.prog (sLoad 56 v1_1) v21_20 w22 <|
  xE Tryd.prog (sCall 41 #[v21_20]) w22 fun v22_23 w24 =>
  xE Tryd.prog (sCall 39 #[v20_21, v22_23]) w24 fun v23_25 w26 =>
  xP Tryd.prog (sExtract v23_25 0) fun _ =>
  xP Tryd.prog (sExtract v23_25 1) fun v25_28 =>
  xP Tryd.prog (sExtract v23_25 2) fun _ =>
  xR Tryd.prog (sEq .eql 3 true v25_28 (.int .i64 0)) w26 fun v28_30 =>
  R (.returned v28_30) w26)
theorem C_staveref19_RightReply {a0 : Value} {w : World} {R : Ending → World → Prop} (h : S_staveref19_RightReply a0 w R) : Calls Tryd.prog 23 #[a0] w R :=
  funcVC_sound (an := A_staveref19_RightReply) (args := [a0]) (k := 1) Tryd.func23 (by kernel_rfl) rfl
    (Eq.mp (show S_staveref19_RightReply a0 w R = funcVC Tryd.prog Tryd.f23 A_staveref19_RightReply [a0] w R by kernel_rfl) h)

/-- stave/stavebook.Same[byte] -/
def A_stavebook_Same_byte : Ann := (.seq .nil (.seq .nil (.seq (.seq .nil (.one (.loop [5] (.seq .nil (.seq (.one (.seq (.draw (.pre [0, 1, 2, 3, 4, 5, 6, 7, 8] .nil) [0, 0, 3, 7, 0, 0, 48, 112, 255]) .nil)) .nil))))) .nil)))
def S_stavebook_Same_byte (a0 : Value) (a1 : Value) (w : World) (R : Ending → World → Prop) : Prop :=
  xP Tryd.prog (sB .len #[57] #[a0]) fun v7_1 =>
  xP Tryd.prog (sB .len #[57] #[a1]) fun v9_2 =>
  xR Tryd.prog (sEq .neq 3 false v7_1 v9_2) w fun v10_3 =>
  xIf v10_3 (
    R (.returned (.bool false)) w) (
    xLoop [(.int .i64 0)] w fun J4 vs5 _ w7 =>
    xP Tryd.prog (sB .len #[57] #[a0]) fun v13_8 =>
    xP Tryd.prog (sBin .lss 3 (vs5.getD 0 undef) v13_8) fun v14_9 =>
    xIf v14_9 (
      xP Tryd.prog (sIA 57 a0 (vs5.getD 0 undef)) fun v19_10 =>
    xR Tryd.prog (sLoad 5 v19_10) (w7.drew) fun v20_11 =>
    xP Tryd.prog (sIA 57 a1 (vs5.getD 0 undef)) fun v23_12 =>
    xR Tryd.prog (sLoad 5 v23_12) (w7.drew) fun v24_13 =>
    xR Tryd.prog (sEq .neq 5 false v20_11 v24_13) (w7.drew) fun v25_14 =>
    xIf v25_14 (
      R (.returned (.bool false)) (w7.drew)) (
      xP Tryd.prog (sBin .add 3 (vs5.getD 0 undef) (.int .i64 1)) fun v16_15 =>
    J4 [v16_15] (w7.drew))) (
      R (.returned (.bool true)) w7))
theorem C_stavebook_Same_byte {a0 : Value} {a1 : Value} {w : World} {R : Ending → World → Prop} (h : S_stavebook_Same_byte a0 a1 w R) : Calls Tryd.prog 24 #[a0, a1] w R :=
  funcVC_sound (an := A_stavebook_Same_byte) (args := [a0, a1]) (k := 2) Tryd.func24 (by kernel_rfl) rfl
    (Eq.mp (show S_stavebook_Same_byte a0 a1 w R = funcVC Tryd.prog Tryd.f24 A_stavebook_Same_byte [a0, a1] w R by kernel_rfl) h)

/-- stave/staveref19.PutReply -/
def A_staveref19_PutReply : Ann := (.seq .nil (.seq .nil (.seq (.draw (.pre [1, 0, 2, 3, 4, 5, 6, 7, 8, 9, 10] .nil) [0, 0, 3, 7, 15, 31, 31, 31, 63, 383, 1023]) .nil)))
def S_staveref19_PutReply (a0 : Value) (w : World) (R : Ending → World → Prop) : Prop :=
  xE Tryd.prog (sBox 56 a0) w fun v1_1 w2 =>
  xR Tryd.prog (sLoad 56 v1_1) w2 fun v6_3 =>
  xE Tryd.prog (sCall 23 #[v6_3]) w2 fun v7_4 w5 =>
  xP Tryd.prog (sUn .not v7_4) fun v8_6 =>
  xIf v8_6 (
    R (.returned (.slice none 0 0)) w5) (
    xR Tryd.prog (sLoad 56 v1_1) (w5.drew) fun v11_7 =>
  xE Tryd.prog (sCall 40 #[]) (w5.drew) fun v10_8 w9 =>
  xStill Tryd.prog (sLoad 56 v1_1) v11_7 w9 <|
  xE Tryd.prog (sCall 41 #[v11_7]) w9 fun v12_10 w11 =>
  xE Tryd.prog (sCall 39 #[v10_8, v12_10]) w11 fun v13_12 w13 =>
  xP Tryd.prog (sExtract v13_12 0) fun v14_14 =>
  xP Tryd.prog (sExtract v13_12 1) fun _ =>
  xP Tryd.prog (sExtract v13_12 2) fun _ =>
  R (.returned v14_14) w13)
theorem C_staveref19_PutReply {a0 : Value} {w : World} {R : Ending → World → Prop} (h : S_staveref19_PutReply a0 w R) : Calls Tryd.prog 25 #[a0] w R :=
  funcVC_sound (an := A_staveref19_PutReply) (args := [a0]) (k := 1) Tryd.func25 (by kernel_rfl) rfl
    (Eq.mp (show S_staveref19_PutReply a0 w R = funcVC Tryd.prog Tryd.f25 A_staveref19_PutReply [a0] w R by kernel_rfl) h)

/-- stave/stavebook.Roomy[byte] -/
def A_stavebook_Roomy_byte : Ann := (.seq .nil (.seq .nil (.seq .nil (.seq (.seq .nil (.one (.loop [6] .nil))) .nil))))
def S_stavebook_Roomy_byte (a0 : Value) (a1 : Value) (w : World) (R : Ending → World → Prop) : Prop :=
  xP Tryd.prog (sB .len #[57] #[a0]) fun v8_1 =>
  xP Tryd.prog (sBin .add 3 v8_1 (.int .i64 80)) fun v9_2 =>
  xE Tryd.prog (sMakeSlice 57 v9_2 v9_2) w fun v10_3 w4 =>
  xE Tryd.prog (sB .copy #[57, 57] #[v10_3, a0]) w4 fun _ w6 =>
  xP Tryd.prog (sB .len #[57] #[a0]) fun v15_7 =>
  xLoop [v15_7] w6 fun J8 vs9 _ w11 =>
    xP Tryd.prog (sB .len #[57] #[v10_3]) fun v18_12 =>
    xP Tryd.prog (sBin .lss 3 (vs9.getD 0 undef) v18_12) fun v19_13 =>
    xIf v19_13 (
      xP Tryd.prog (sIA 57 v10_3 (vs9.getD 0 undef)) fun v25_14 =>
    xE Tryd.prog (sStore 5 v25_14 a1) w11 fun _ w15 =>
    xP Tryd.prog (sBin .add 3 (vs9.getD 0 undef) (.int .i64 1)) fun v21_16 =>
    J8 [v21_16] w15) (
      R (.returned v10_3) w11)
theorem C_stavebook_Roomy_byte {a0 : Value} {a1 : Value} {w : World} {R : Ending → World → Prop} (h : S_stavebook_Roomy_byte a0 a1 w R) : Calls Tryd.prog 26 #[a0, a1] w R :=
  funcVC_sound (an := A_stavebook_Roomy_byte) (args := [a0, a1]) (k := 2) Tryd.func26 (by kernel_rfl) rfl
    (Eq.mp (show S_stavebook_Roomy_byte a0 a1 w R = funcVC Tryd.prog Tryd.f26 A_stavebook_Roomy_byte [a0, a1] w R by kernel_rfl) h)

/-- stave/reply.Get -/
def A_reply_Get : Ann := (.seq .nil (.seq .nil (.seq .nil (.seq (.draw (.pre [0, 1, 2, 3, 4, 5, 6, 7, 8, 9, 10, 11, 12, 13, 14, 15, 16, 17, 18, 19, 20, 21, 22] .nil) [0, 1, 3, 7, 0, 16, 48, 112, 0, 256, 768, 1792, 0, 4096, 12288, 28672, 0, 65536, 196608, 458752, 1048575, 0, 4194303]) (.seq (.seq .nil (.one (.loop [46] (.seq .nil (.seq .nil (.seq (.one (.seq .nil (.seq .nil (.draw (.pre [0, 1, 2, 3, 4, 5, 6, 7] .nil) [0, 1, 0, 4, 12, 31, 63, 127])))) .nil)))))) .nil)))))
def S_reply_Get (a0 : Value) (w : World) (R : Ending → World → Prop) : Prop :=
  xE Tryd.prog (sAlloc 56) w fun v2_1 w2 =>
  xE Tryd.prog (sCall 43 #[]) w2 fun v10_3 w4 =>
  xE Tryd.prog (sCall 42 #[v10_3, a0]) w4 fun v12_5 w6 =>
  xP Tryd.prog (sExtract v12_5 0) fun v13_7 =>
  xP Tryd.prog (sExtract v12_5 1) fun v14_8 =>
  xR Tryd.prog (sEq .neq 27 true v14_8 (.nilIface)) w6 fun v16_9 =>
  xIf v16_9 (
    xP Tryd.prog (sBuild 56 #[]) fun v17_10 =>
    xE Tryd.prog (sCall 32 #[(.string (ByteArray.mk #[114, 101, 112, 108, 121, 46, 71, 101, 116])), (.int .i64 0), v14_8]) w6 fun v19_11 w12 =>
    xE Tryd.prog (sStore 56 v2_1 v17_10) w12 fun _ w13 =>
    xR Tryd.prog (sLoad 56 v2_1) w13 fun r14 => R (.returned (.tuple #[r14, v19_11])) w13) (
    xP Tryd.prog (sIA 88 v13_7 (.int .i64 0)) fun v21_15 =>
  xP Tryd.prog (sFA 93 v21_15 0) fun v22_16 =>
  xR Tryd.prog (sLoad 3 v22_16) (w6.drew) fun v23_17 =>
  xP Tryd.prog (sIA 88 v13_7 (.int .i64 1)) fun v25_18 =>
  xP Tryd.prog (sFA 93 v25_18 0) fun v26_19 =>
  xR Tryd.prog (sLoad 3 v26_19) (w6.drew) fun v27_20 =>
  xP Tryd.prog (sIA 88 v13_7 (.int .i64 2)) fun v29_21 =>
  xP Tryd.prog (sFA 93 v29_21 0) fun v30_22 =>
  xR Tryd.prog (sLoad 3 v30_22) (w6.drew) fun v31_23 =>
  xP Tryd.prog (sIA 88 v13_7 (.int .i64 3)) fun v33_24 =>
  xP Tryd.prog (sFA 93 v33_24 0) fun v34_25 =>
  xR Tryd.prog (sLoad 3 v34_25) (w6.drew) fun v35_26 =>
  xP Tryd.prog (sIA 88 v13_7 (.int .i64 4)) fun v37_27 =>
  xP Tryd.prog (sFA 93 v37_27 2) fun v38_28 =>
  xR Tryd.prog (sLoad 53 v38_28) (w6.drew) fun v39_29 =>
  xP Tryd.prog (sBuild 56 #[(0, v23_17), (1, v27_20), (2, v31_23), (3, v35_26), (4, v39_29)]) fun v40_30 =>
  xE Tryd.prog (sAlloc 56) (w6.drew) fun v6_31 w32 =>
  xStill Tryd.prog (sLoad 53 v38_28) v39_29 w32 <|
  xStill Tryd.prog (sLoad 3 v34_25) v35_26 w32 <|
  xStill Tryd.prog (sLoad 3 v30_22) v31_23 w32 <|
  xStill Tryd.prog (sLoad 3 v26_19) v27_20 w32 <|
  xStill Tryd.prog (sLoad 3 v22_16) v23_17 w32 <|
  xE Tryd.prog (sStore 56 v6_31 v40_30) w32 fun _ w33 =>
  xP Tryd.prog (sIA 88 v13_7 (.int .i64 5)) fun v42_34 =>
  xP Tryd.prog (sFA 93 v42_34 2) fun v43_35 =>
  xR Tryd.prog (sLoad 53 v43_35) w33 fun v44_36 =>
  xP Tryd.prog (sB .len #[53] #[v44_36]) fun v45_37 =>
  xLoop [(.int .i64 0)] w33 fun J38 vs39 _ w41 =>
    xP Tryd.prog (sBin .lss 3 (vs39.getD 0 undef) v45_37) fun v47_42 =>
    xIf v47_42 (
      xP Tryd.prog (sIA 53 v44_36 (vs39.getD 0 undef)) fun v48_43 =>
    xR Tryd.prog (sLoad 9 v48_43) w41 fun v49_44 =>
    xP Tryd.prog (sB .len #[9] #[v49_44]) fun v51_45 =>
    xP Tryd.prog (sBin .lss 3 v51_45 (.int .i64 8)) fun v52_46 =>
    xIf v52_46 (
      xP Tryd.prog (sBuild 56 #[]) fun v53_47 =>
      xP Tryd.prog (sIface 31 (.int .i64 2)) fun v54_48 =>
      xE Tryd.prog (sCall 32 #[(.string (ByteArray.mk #[114, 101, 112, 108, 121, 46, 71, 101, 116])), (.int .i64 0), v54_48]) w41 fun v55_49 w50 =>
      xE Tryd.prog (sStore 56 v2_1 v53_47) w50 fun _ w51 =>
      xR Tryd.prog (sLoad 56 v2_1) w51 fun r52 => R (.returned (.tuple #[r52, v55_49])) w51) (
      xP Tryd.prog (sFA 56 v6_31 5) fun v56_53 =>
    xR Tryd.prog (sLoad 54 v56_53) (w41.drew) fun v57_54 =>
    xE Tryd.prog (sCall 44 #[v49_44]) (w41.drew) fun v59_55 w56 =>
    xStill Tryd.prog (sLoad 54 v56_53) v57_54 w56 <|
    xE Tryd.prog (sBuildSlice 54 1 #[(0, v59_55)]) w56 fun v60_57 w58 =>
    xStill Tryd.prog (sLoad 54 v56_53) v57_54 w58 <|
    xE Tryd.prog (sB .append #[54, 54] #[v57_54, v60_57]) w58 fun v61_59 w60 =>
    xP Tryd.prog (sFA 56 v6_31 5) fun v62_61 =>
    xE Tryd.prog (sStore 54 v62_61 v61_59) w60 fun _ w62 =>
    xP Tryd.prog (sBin .add 3 (vs39.getD 0 undef) (.int .i64 1)) fun v63_63 =>
    J38 [v63_63] w62)) (
      xR Tryd.prog (sLoad 56 v6_31) w41 fun v64_64 =>
  xE Tryd.prog (sCall 22 #[v64_64]) w41 fun v65_65 w66 =>
  xP Tryd.prog (sUn .not v65_65) fun v66_67 =>
  xIf v66_67 (
    xP Tryd.prog (sBuild 56 #[]) fun v67_68 =>
    xP Tryd.prog (sIface 31 (.int .i64 2)) fun v68_69 =>
    xE Tryd.prog (sCall 32 #[(.string (ByteArray.mk #[114, 101, 112, 108, 121, 46, 71, 101, 116])), (.int .i64 0), v68_69]) w66 fun v69_70 w71 =>
    xE Tryd.prog (sStore 56 v2_1 v67_68) w71 fun _ w72 =>
    xR Tryd.prog (sLoad 56 v2_1) w72 fun r73 => R (.returned (.tuple #[r73, v69_70])) w72) (
    xR Tryd.prog (sLoad 56 v6_31) w66 fun v70_74 =>
  xE Tryd.prog (sStore 56 v2_1 v70_74) w66 fun _ w75 =>
  xR Tryd.prog (sLoad 56 v2_1) w75 fun r76 => R (.returned (.tuple #[r76, (.nilIface)])) w75)))
theorem C_reply_Get {a0 : Value} {w : World} {R : Ending → World → Prop} (h : S_reply_Get a0 w R) : Calls Tryd.prog 27 #[a0] w R :=
  funcVC_sound (an := A_reply_Get) (args := [a0]) (k := 1) Tryd.func27 (by kernel_rfl) rfl
    (Eq.mp (show S_reply_Get a0 w R = funcVC Tryd.prog Tryd.f27 A_reply_Get [a0] w R by kernel_rfl) h)

/-- stave/staveref19.GetReply -/
def A_staveref19_GetReply : Ann := (.seq .nil (.seq .nil (.seq .nil (.seq (.draw (.pre [0, 1, 2, 3, 4, 5, 6, 7, 8, 9, 10, 11, 12, 13, 14, 15, 16, 17, 18, 19, 20, 21, 22] .nil) [0, 1, 3, 7, 0, 16, 48, 112, 0, 256, 768, 1792, 0, 4096, 12288, 28672, 0, 65536, 196608, 458752, 1048575, 0, 4194303]) (.seq (.seq .nil (.one (.loop [47] (.seq .nil (.seq .nil (.seq (.one (.seq .nil (.seq .nil (.draw (.pre [0, 1, 2, 3, 7, 8, 4, 5, 6, 9, 10, 11, 12, 13] .nil) [0, 1, 0, 4, 12, 28, 60, 0, 128, 508, 1020, 2047, 4095, 8191])))) .nil)))))) .nil)))))
def S_staveref19_GetReply (a0 : Value) (w : World) (R : Ending → World → Prop) : Prop :=
  xE Tryd.prog (sAlloc 56) w fun v2_1 w2 =>
  xE Tryd.prog (sCall 40 #[]) w2 fun v11_3 w4 =>
  xE Tryd.prog (sCall 45 #[v11_3, a0]) w4 fun v13_5 w6 =>
  xP Tryd.prog (sExtract v13_5 0) fun v14_7 =>
  xP Tryd.prog (sExtract v13_5 1) fun v15_8 =>
  xP Tryd.prog (sExtract v13_5 2) fun _ =>
  xR Tryd.prog (sEq .neq 3 true v15_8 (.int .i64 0)) w6 fun v18_10 =>
  xIf v18_10 (
    xP Tryd.prog (sBuild 56 #[]) fun v19_11 =>
    xE Tryd.prog (sStore 56 v2_1 v19_11) w6 fun _ w12 =>
    xR Tryd.prog (sLoad 56 v2_1) w12 fun r13 => R (.returned (.tuple #[r13, v15_8])) w12) (
    xP Tryd.prog (sIA 88 v14_7 (.int .i64 0)) fun v22_14 =>
  xP Tryd.prog (sFA 93 v22_14 0) fun v23_15 =>
  xR Tryd.prog (sLoad 3 v23_15) (w6.drew) fun v24_16 =>
  xP Tryd.prog (sIA 88 v14_7 (.int .i64 1)) fun v26_17 =>
  xP Tryd.prog (sFA 93 v26_17 0) fun v27_18 =>
  xR Tryd.prog (sLoad 3 v27_18) (w6.drew) fun v28_19 =>
  xP Tryd.prog (sIA 88 v14_7 (.int .i64 2)) fun v30_20 =>
  xP Tryd.prog (sFA 93 v30_20 0) fun v31_21 =>
  xR Tryd.prog (sLoad 3 v31_21) (w6.drew) fun v32_22 =>
  xP Tryd.prog (sIA 88 v14_7 (.int .i64 3)) fun v34_23 =>
  xP Tryd.prog (sFA 93 v34_23 0) fun v35_24 =>
  xR Tryd.prog (sLoad 3 v35_24) (w6.drew) fun v36_25 =>
  xP Tryd.prog (sIA 88 v14_7 (.int .i64 4)) fun v38_26 =>
  xP Tryd.prog (sFA 93 v38_26 2) fun v39_27 =>
  xR Tryd.prog (sLoad 53 v39_27) (w6.drew) fun v40_28 =>
  xP Tryd.prog (sBuild 56 #[(0, v24_16), (1, v28_19), (2, v32_22), (3, v36_25), (4, v40_28)]) fun v41_29 =>
  xE Tryd.prog (sAlloc 56) (w6.drew) fun v7_30 w31 =>
  xStill Tryd.prog (sLoad 53 v39_27) v40_28 w31 <|
  xStill Tryd.prog (sLoad 3 v35_24) v36_25 w31 <|
  xStill Tryd.prog (sLoad 3 v31_21) v32_22 w31 <|
  xStill Tryd.prog (sLoad 3 v27_18) v28_19 w31 <|
  xStill Tryd.prog (sLoad 3 v23_15) v24_16 w31 <|
  xE Tryd.prog (sStore 56 v7_30 v41_29) w31 fun _ w32 =>
  xP Tryd.prog (sIA 88 v14_7 (.int .i64 5)) fun v43_33 =>
  xP Tryd.prog (sFA 93 v43_33 2) fun v44_34 =>
  xR Tryd.prog (sLoad 53 v44_34) w32 fun v45_35 =>
  xP Tryd.prog (sB .len #[53] #[v45_35]) fun v46_36 =>
  xLoop [(.int .i64 0)] w32 fun J37 vs38 _ w40 =>
    xP Tryd.prog (sBin .lss 3 (vs38.getD 0 undef) v46_36) fun v48_41 =>
    xIf v48_41 (
      xP Tryd.prog (sIA 53 v45_35 (vs38.getD 0 undef)) fun v49_42 =>
    xR Tryd.prog (sLoad 9 v49_42) w40 fun v50_43 =>
    xP Tryd.prog (sB .len #[9] #[v50_43]) fun v52_44 =>
    xP Tryd.prog (sBin .lss 3 v52_44 (.int .i64 8)) fun v53_45 =>
    xIf v53_45 (
      xP Tryd.prog (sBuild 56 #[]) fun v54_46 =>
      xE Tryd.prog (sStore 56 v2_1 v54_46) w40 fun _ w47 =>
      xR Tryd.prog (sLoad 56 v2_1) w47 fun r48 => R (.returned (.tuple #[r48, (.int .i64 2)])) w47) (
      xP Tryd.prog (sFA 56 v7_30 5) fun v55_49 =>
    xR Tryd.prog (sLoad 54 v55_49) (w40.drew) fun v56_50 =>
    xP Tryd.prog (sSlice 9 v50_43 none (some (.int .i64 8)) none) fun v58_51 =>
    xP Tryd.prog (sSlice 9 v50_43 (some (.int .i64 8)) none none) fun v63_52 =>
    xE Tryd.prog (sConv 9 57 v58_51) (w40.drew) fun v59_53 w54 =>
    xStill Tryd.prog (sLoad 54 v55_49) v56_50 w54 <|
    xE Tryd.prog (sCall 46 #[v59_53]) w54 fun v60_55 w56 =>
    xStill Tryd.prog (sLoad 54 v55_49) v56_50 w56 <|
    xP Tryd.prog (sConv 97 3 v60_55) fun v61_57 =>
    xP Tryd.prog (sBuild 79 #[(0, v61_57), (1, v63_52)]) fun v64_58 =>
    xE Tryd.prog (sBuildSlice 54 1 #[(0, v64_58)]) w56 fun v65_59 w60 =>
    xStill Tryd.prog (sLoad 54 v55_49) v56_50 w60 <|
    xE Tryd.prog (sB .append #[54, 54] #[v56_50, v65_59]) w60 fun v66_61 w62 =>
    xP Tryd.prog (sFA 56 v7_30 5) fun v67_63 =>
    xE Tryd.prog (sStore 54 v67_63 v66_61) w62 fun _ w64 =>
    xP Tryd.prog (sBin .add 3 (vs38.getD 0 undef) (.int .i64 1)) fun v68_65 =>
    J37 [v68_65] w64)) (
      xR Tryd.prog (sLoad 56 v7_30) w40 fun v69_66 =>
  xE Tryd.prog (sCall 23 #[v69_66]) w40 fun v70_67 w68 =>
  xP Tryd.prog (sUn .not v70_67) fun v71_69 =>
  xIf v71_69 (
    xP Tryd.prog (sBuild 56 #[]) fun v72_70 =>
    xE Tryd.prog (sStore 56 v2_1 v72_70) w68 fun _ w71 =>
    xR Tryd.prog (sLoad 56 v2_1) w71 fun r72 => R (.returned (.tuple #[r72, (.int .i64 2)])) w71) (
    xR Tryd.prog (sLoad 56 v7_30) w68 fun v73_73 =>
  xE Tryd.prog (sStore 56 v2_1 v73_73) w68 fun _ w74 =>
  xR Tryd.prog (sLoad 56 v2_1) w74 fun r75 => R (.returned (.tuple #[r75, (.int .i64 0)])) w74)))
theorem C_staveref19_GetReply {a0 : Value} {w : World} {R : Ending → World → Prop} (h : S_staveref19_GetReply a0 w R) : Calls Tryd.prog 28 #[a0] w R :=
  funcVC_sound (an := A_staveref19_GetReply) (args := [a0]) (k := 1) Tryd.func28 (by kernel_rfl) rfl
    (Eq.mp (show S_staveref19_GetReply a0 w R = funcVC Tryd.prog Tryd.f28 A_staveref19_GetReply [a0] w R by kernel_rfl) h)

/-- stave/stavekeep.Replies -/
def A_stavekeep_Replies : Ann := .nil
def S_stavekeep_Replies (a0 : Value) (a1 : Value) (w : World) (R : Ending → World → Prop) : Prop :=
  xE Tryd.prog (sBox 56 a0) w fun v2_1 w2 =>
  xE Tryd.prog (sBox 56 a1) w2 fun v3_3 w4 =>
  xP Tryd.prog (sFA 56 v2_1 0) fun v5_5 =>
  xR Tryd.prog (sLoad 3 v5_5) w4 fun v6_6 =>
  xP Tryd.prog (sFA 56 v3_3 0) fun v7_7 =>
  xR Tryd.prog (sLoad 3 v7_7) w4 fun v8_8 =>
  xR Tryd.prog (sEq .eql 3 false v6_6 v8_8) w4 fun v9_9 =>
  xIf v9_9 (
  xP Tryd.prog (sFA 56 v2_1 1) fun v11_10 =>
  xR Tryd.prog (sLoad 31 v11_10) w4 fun v12_11 =>
  xP Tryd.prog (sFA 56 v3_3 1) fun v13_12 =>
  xR Tryd.prog (sLoad 31 v13_12) w4 fun v14_13 =>
  xR Tryd.prog (sEq .eql 31 false v12_11 v14_13) w4 fun v15_14 =>
  xIf v15_14 (
  xP Tryd.prog (sFA 56 v2_1 2) fun v18_15 =>
  xR Tryd.prog (sLoad 3 v18_15) w4 fun v19_16 =>
  xP Tryd.prog (sFA 56 v3_3 2) fun v20_17 =>
  xR Tryd.prog (sLoad 3 v20_17) w4 fun v21_18 =>
  xR Tryd.prog (sEq .eql 3 false v19_16 v21_18) w4 fun v22_19 =>
  xIf v22_19 (
  xP Tryd.prog (sFA 56 v2_1 3) fun v25_20 =>
  xR Tryd.prog (sLoad 3 v25_20) w4 fun v26_21 =>
  xP Tryd.prog (sFA 56 v3_3 3) fun v27_22 =>
  xR Tryd.prog (sLoad 3 v27_22) w4 fun v28_23 =>
  xR Tryd.prog (sEq .eql 3 false v26_21 v28_23) w4 fun v29_24 =>
  xIf v29_24 (
  xP Tryd.prog (sFA 56 v2_1 4) fun v32_25 =>
  xR Tryd.prog (sLoad 53 v32_25) w4 fun v33_26 =>
  xP Tryd.prog (sFA 56 v3_3 4) fun v34_27 =>
  xR Tryd.prog (sLoad 53 v34_27) w4 fun v35_28 =>
  xE Tryd.prog (sCall 47 #[v33_26, v35_28]) w4 fun v36_29 w30 =>
  xIf v36_29 (
  xP Tryd.prog (sFA 56 v2_1 5) fun v39_31 =>
  xR Tryd.prog (sLoad 54 v39_31) w30 fun v40_32 =>
  xP Tryd.prog (sFA 56 v3_3 5) fun v41_33 =>
  xR Tryd.prog (sLoad 54 v41_33) w30 fun v42_34 =>
  xE Tryd.prog (sCall 48 #[v40_32, v42_34]) w30 fun v43_35 w36 =>
  R (.returned v43_35) w36) (
  R (.returned (.bool false)) w30)) (
  R (.returned (.bool false)) w4)) (
  R (.returned (.bool false)) w4)) (
  R (.returned (.bool false)) w4)) (
  R (.returned (.bool false)) w4)
theorem C_stavekeep_Replies {a0 : Value} {a1 : Value} {w : World} {R : Ending → World → Prop} (h : S_stavekeep_Replies a0 a1 w R) : Calls Tryd.prog 29 #[a0, a1] w R :=
  funcVC_sound (an := A_stavekeep_Replies) (args := [a0, a1]) (k := 2) Tryd.func29 (by kernel_rfl) rfl
    (Eq.mp (show S_stavekeep_Replies a0 a1 w R = funcVC Tryd.prog Tryd.f29 A_stavekeep_Replies [a0, a1] w R by kernel_rfl) h)

/-- stave/stavebook.Intact[byte] -/
def A_stavebook_Intact_byte : Ann := (.seq .nil (.seq (.join [22] .nil .nil) (.seq (.seq .nil (.one (.loop [7] .nil))) .nil)))
def S_stavebook_Intact_byte (a0 : Value) (a1 : Value) (a2 : Value) (w : World) (R : Ending → World → Prop) : Prop :=
  xJoin (fun J1 =>
    xP Tryd.prog (sB .len #[57] #[a0]) fun v9_2 =>
    xP Tryd.prog (sB .len #[57] #[a1]) fun v11_3 =>
    xP Tryd.prog (sBin .add 3 v11_3 (.int .i64 80)) fun v12_4 =>
    xR Tryd.prog (sEq .neq 3 false v9_2 v12_4) w fun v13_5 =>
    xIf v13_5 (
    J1 [(.bool true)] w) (
    xP Tryd.prog (sB .len #[57] #[a1]) fun v17_6 =>
    xP Tryd.prog (sSlice 57 a0 none (some v17_6) none) fun v18_7 =>
    xE Tryd.prog (sCall 24 #[v18_7, a1]) w fun v20_8 w9 =>
    xP Tryd.prog (sUn .not v20_8) fun v21_10 =>
    J1 [v21_10] w9)) fun vs11 _ w13 =>
  xIf (vs11.getD 0 undef) (
    R (.returned (.bool false)) w13) (
    xP Tryd.prog (sB .len #[57] #[a1]) fun v24_14 =>
  xLoop [v24_14] w13 fun J15 vs16 _ w18 =>
    xP Tryd.prog (sB .len #[57] #[a0]) fun v27_19 =>
    xP Tryd.prog (sBin .lss 3 (vs16.getD 0 undef) v27_19) fun v28_20 =>
    xIf v28_20 (
      xP Tryd.prog (sIA 57 a0 (vs16.getD 0 undef)) fun v33_21 =>
    xR Tryd.prog (sLoad 5 v33_21) w18 fun v34_22 =>
    xR Tryd.prog (sEq .neq 5 false v34_22 a2) w18 fun v36_23 =>
    xIf v36_23 (
      R (.returned (.bool false)) w18) (
      xP Tryd.prog (sBin .add 3 (vs16.getD 0 undef) (.int .i64 1)) fun v30_24 =>
    J15 [v30_24] w18)) (
      R (.returned (.bool true)) w18))
theorem C_stavebook_Intact_byte {a0 : Value} {a1 : Value} {a2 : Value} {w : World} {R : Ending → World → Prop} (h : S_stavebook_Intact_byte a0 a1 a2 w R) : Calls Tryd.prog 30 #[a0, a1, a2] w R :=
  funcVC_sound (an := A_stavebook_Intact_byte) (args := [a0, a1, a2]) (k := 3) Tryd.func30 (by kernel_rfl) rfl
    (Eq.mp (show S_stavebook_Intact_byte a0 a1 a2 w R = funcVC Tryd.prog Tryd.f30 A_stavebook_Intact_byte [a0, a1, a2] w R by kernel_rfl) h)

/-- stave/stavelaw23.ReplyRuns -/
def A_stavelaw23_ReplyRuns : Ann := .nil
def S_stavelaw23_ReplyRuns (w : World) (R : Ending → World → Prop) : Prop :=
  xP Tryd.prog (sBuild 56 #[(0, (.int .i64 1)), (1, (.int .i64 10))]) fun v2_1 =>
  xE Tryd.prog (sCall 21 #[v2_1]) w fun v3_2 w3 =>
  xE Tryd.prog (sBuildSlice 57 23 #[(0, (.int .u8 1)), (1, (.int .u8 0)), (2, (.int .u8 0)), (3, (.int .u8 0)), (4, (.int .u8 10)), (5, (.int .u8 0)), (6, (.int .u8 0)), (7, (.int .u8 0)), (8, (.int .u8 0)), (9, (.int .u8 0)), (10, (.int .u8 0)), (11, (.int .u8 0)), (12, (.int .u8 0)), (13, (.int .u8 0)), (14, (.int .u8 0)), (15, (.int .u8 0)), (16, (.int .u8 0)), (17, (.int .u8 0)), (18, (.int .u8 0)), (19, (.int .u8 0)), (20, (.int .u8 0)), (21, (.int .u8 0)), (22, (.int .u8 0))]) w3 fun v5_4 w5 =>
  xE Tryd.prog (sCall 24 #[v3_2, v5_4]) w5 fun v6_6 w7 =>
  R (.returned v6_6) w7
theorem C_stavelaw23_ReplyRuns {w : World} {R : Ending → World → Prop} (h : S_stavelaw23_ReplyRuns  w R) : Calls Tryd.prog 31 #[] w R :=
  funcVC_sound (an := A_stavelaw23_ReplyRuns) (args := []) (k := 0) Tryd.func31 (by kernel_rfl) rfl
    (Eq.mp (show S_stavelaw23_ReplyRuns  w R = funcVC Tryd.prog Tryd.f31 A_stavelaw23_ReplyRuns [] w R by kernel_rfl) h)

/-- stave/fault.Wrap -/
def A_fault_Wrap : Ann := .nil
def S_fault_Wrap (a0 : Value) (a1 : Value) (a2 : Value) (w : World) (R : Ending → World → Prop) : Prop :=
  xR Tryd.prog (sEq .eql 27 true a2 (.nilIface)) w fun v8_1 =>
  xIf v8_1 (
    R (.returned (.nilIface)) w) (
    xP Tryd.prog (sBuild 102 #[(0, a0), (1, a1), (2, a2)]) fun v12_2 =>
  xP Tryd.prog (sIface 102 v12_2) fun v13_3 =>
  R (.returned v13_3) w)
theorem C_fault_Wrap {a0 : Value} {a1 : Value} {a2 : Value} {w : World} {R : Ending → World → Prop} (h : S_fault_Wrap a0 a1 a2 w R) : Calls Tryd.prog 32 #[a0, a1, a2] w R :=
  funcVC_sound (an := A_fault_Wrap) (args := [a0, a1, a2]) (k := 3) Tryd.func32 (by kernel_rfl) rfl
    (Eq.mp (show S_fault_Wrap a0 a1 a2 w R = funcVC Tryd.prog Tryd.f32 A_fault_Wrap [a0, a1, a2] w R by kernel_rfl) h)

/-- errors.As -/
def A_errors_As : Ann := (.seq .nil (.seq .nil (.join [] .nil (.seq .nil (.seq .nil (.join [] (.join [23] .nil .nil) (.seq .nil (.join [] (.join [35] .nil .nil) .nil))))))))
def S_errors_As (a0 : Value) (a1 : Value) (w : World) (R : Ending → World → Prop) : Prop :=
  xR Tryd.prog (sEq .eql 27 true a0 (.nilIface)) w fun v9_1 =>
  xIf v9_1 (
    R (.returned (.bool false)) w) (
    xJoin (fun J2 =>
    xR Tryd.prog (sEq .eql 20 true a1 (.nilIface)) w fun v11_3 =>
    xIf v11_3 (
      xP Tryd.prog (sIface 9 (.string (ByteArray.mk #[101, 114, 114, 111, 114, 115, 58, 32, 116, 97, 114, 103, 101, 116, 32, 99, 97, 110, 110, 111, 116, 32, 98, 101, 32, 110, 105, 108]))) fun v12_4 =>
      xE Tryd.prog (sPanic v12_4) w fun _ w5 =>
      J2 [] w5) (
      J2 [] w)) fun _ _ w8 =>
  xE Tryd.prog (sCall 49 #[a1]) w8 fun v14_9 w10 =>
  xE Tryd.prog (sAlloc 106) w10 fun v5_11 w12 =>
  xE Tryd.prog (sStore 106 v5_11 v14_9) w12 fun _ w13 =>
  xR Tryd.prog (sLoad 106 v5_11) w13 fun v15_14 =>
  xE Tryd.prog (sCall 50 #[v15_14]) w13 fun v16_15 w16 =>
  xJoin (fun J17 =>
    xJoin (fun J18 =>
      xE Tryd.prog (sInvoke "Kind" #[v16_15]) w16 fun v18_19 w20 =>
      xR Tryd.prog (sEq .neq 111 true v18_19 (.int .u8 22)) w20 fun v19_21 =>
      xIf v19_21 (
      J18 [(.bool true)] w20) (
      xR Tryd.prog (sLoad 106 v5_11) w20 fun v21_22 =>
      xE Tryd.prog (sCall 51 #[v21_22]) w20 fun v22_23 w24 =>
      J18 [v22_23] w24)) fun vs25 _ w27 =>
    xIf (vs25.getD 0 undef) (
      xP Tryd.prog (sIface 9 (.string (ByteArray.mk #[101, 114, 114, 111, 114, 115, 58, 32, 116, 97, 114, 103, 101, 116, 32, 109, 117, 115, 116, 32, 98, 101, 32, 97, 32, 110, 111, 110, 45, 110, 105, 108, 32, 112, 111, 105, 110, 116, 101, 114]))) fun v24_28 =>
      xE Tryd.prog (sPanic v24_28) w27 fun _ w29 =>
      J17 [] w29) (
      J17 [] w27)) fun _ _ w32 =>
  xE Tryd.prog (sInvoke "Elem" #[v16_15]) w32 fun v26_33 w34 =>
  xJoin (fun J35 =>
    xJoin (fun J36 =>
      xE Tryd.prog (sInvoke "Kind" #[v26_33]) w34 fun v28_37 w38 =>
      xR Tryd.prog (sEq .neq 111 true v28_37 (.int .u8 20)) w38 fun v29_39 =>
      xIf v29_39 (
      xR Tryd.prog (sLoad 109 (.pointer (some ⟨0, 0, none⟩))) w38 fun v32_40 =>
      xE Tryd.prog (sInvoke "Implements" #[v26_33, v32_40]) w38 fun v33_41 w42 =>
      xP Tryd.prog (sUn .not v33_41) fun v34_43 =>
      J36 [v34_43] w42) (
      J36 [(.bool false)] w38)) fun vs44 _ w46 =>
    xIf (vs44.getD 0 undef) (
      xP Tryd.prog (sIface 9 (.string (ByteArray.mk #[101, 114, 114, 111, 114, 115, 58, 32, 42, 116, 97, 114, 103, 101, 116, 32, 109, 117, 115, 116, 32, 98, 101, 32, 105, 110, 116, 101, 114, 102, 97, 99, 101, 32, 111, 114, 32, 105, 109, 112, 108, 101, 109, 101, 110, 116, 32, 101, 114, 114, 111, 114]))) fun v36_47 =>
      xE Tryd.prog (sPanic v36_47) w46 fun _ w48 =>
      J35 [] w48) (
      J35 [] w46)) fun _ _ w51 =>
  xR Tryd.prog (sLoad 106 v5_11) w51 fun v39_52 =>
  xE Tryd.prog (sCall 52 #[a0, a1, v39_52, v26_33]) w51 fun v41_53 w54 =>
  R (.returned v41_53) w54)
theorem C_errors_As {a0 : Value} {a1 : Value} {w : World} {R : Ending → World → Prop} (h : S_errors_As a0 a1 w R) : Calls Tryd.prog 33 #[a0, a1] w R :=
  funcVC_sound (an := A_errors_As) (args := [a0, a1]) (k := 2) Tryd.func33 (by kernel_rfl) rfl
    (Eq.mp (show S_errors_As a0 a1 w R = funcVC Tryd.prog Tryd.f33 A_errors_As [a0, a1] w R by kernel_rfl) h)

/-- errors.Is -/
def A_errors_Is : Ann := (.seq .nil (.seq (.join [11] .nil .nil) .nil))
def S_errors_Is (a0 : Value) (a1 : Value) (w : World) (R : Ending → World → Prop) : Prop :=
  xJoin (fun J1 =>
    xR Tryd.prog (sEq .eql 27 true a0 (.nilIface)) w fun v7_2 =>
    xIf v7_2 (
    J1 [(.bool true)] w) (
    xR Tryd.prog (sEq .eql 27 true a1 (.nilIface)) w fun v10_3 =>
    J1 [v10_3] w)) fun vs4 _ w6 =>
  xIf (vs4.getD 0 undef) (
    xR Tryd.prog (sEq .eql 27 false a0 a1) w6 fun v14_7 =>
    R (.returned v14_7) w6) (
    xE Tryd.prog (sCall 53 #[a1]) w6 fun v16_8 w9 =>
  xE Tryd.prog (sInvoke "Comparable" #[v16_8]) w9 fun v17_10 w11 =>
  xE Tryd.prog (sCall 54 #[a0, a1, v17_10]) w11 fun v21_12 w13 =>
  R (.returned v21_12) w13)
theorem C_errors_Is {a0 : Value} {a1 : Value} {w : World} {R : Ending → World → Prop} (h : S_errors_Is a0 a1 w R) : Calls Tryd.prog 34 #[a0, a1] w R :=
  funcVC_sound (an := A_errors_Is) (args := [a0, a1]) (k := 2) Tryd.func34 (by kernel_rfl) rfl
    (Eq.mp (show S_errors_Is a0 a1 w R = funcVC Tryd.prog Tryd.f34 A_errors_Is [a0, a1] w R by kernel_rfl) h)

/-- maps.Clone[map[int]stave/api.Sent,int,stave/api.Sent] -/
def A_maps_Clone_api_Sent : Ann := .nil
def S_maps_Clone_api_Sent (a0 : Value) (w : World) (R : Ending → World → Prop) : Prop :=
  xR Tryd.prog (sEq .eql 37 true a0 (.map none)) w fun v4_1 =>
  xIf v4_1 (
    R (.returned (.map none)) w) (
    xP Tryd.prog (sIface 37 a0) fun v6_2 =>
  xE Tryd.prog (sCall 55 #[v6_2]) w fun v7_3 w4 =>
  xP Tryd.prog (sAssert v7_3 20 37 false) fun v8_5 =>
  R (.returned v8_5) w4)
theorem C_maps_Clone_api_Sent {a0 : Value} {w : World} {R : Ending → World → Prop} (h : S_maps_Clone_api_Sent a0 w R) : Calls Tryd.prog 35 #[a0] w R :=
  funcVC_sound (an := A_maps_Clone_api_Sent) (args := [a0]) (k := 1) Tryd.func35 (by kernel_rfl) rfl
    (Eq.mp (show S_maps_Clone_api_Sent a0 w R = funcVC Tryd.prog Tryd.f35 A_maps_Clone_api_Sent [a0] w R by kernel_rfl) h)

end Go.Proofs.YtbfaglbfpmnnmaaDoor
