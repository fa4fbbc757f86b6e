import Derived.Test.YthmjjdfjegjfeaaDoorXEnt
import Derived.Test.YthmjjdfjegjfeaaDoorRows
namespace Go.Proofs.YthmjjdfjegjfeaaDoor
set_option linter.unusedSimpArgs false
set_option linter.unusedVariables false
open Go.X
set_option maxRecDepth 100000

/-- stave/stavelaw6.DiskRuns -/
def A_stavelaw6_DiskRuns : Ann := (.seq .nil (.seq .nil (.seq (.join [21] .nil .nil) (.seq (.seq .nil (.one (.loop [3] .nil))) .nil))))
def S_stavelaw6_DiskRuns (w : World) (R : Ending → World → Prop) : Prop :=
  xE Tryd.prog (sCall 9 #[(.int .i64 3)]) w fun v13_1 w2 =>
  xP Tryd.prog (sExtract v13_1 0) fun v14_3 =>
  xP Tryd.prog (sExtract v13_1 1) fun v15_4 =>
  xJoin (fun J5 =>
    xR Tryd.prog (sEq .eql 22 true v14_3 (.pointer none)) w2 fun v17_6 =>
    xIf v17_6 (
    J5 [(.bool true)] w2) (
    xR Tryd.prog (sEq .neq 24 true v15_4 (.nilIface)) w2 fun v20_7 =>
    J5 [v20_7] w2)) fun vs8 _ w10 =>
  xIf (vs8.getD 0 undef) (
    R (.returned (.bool false)) w10) (
    xLoop [(.int .i64 0)] w10 fun J11 vs12 _ w14 =>
    xP Tryd.prog (sBin .lss 3 (vs12.getD 0 undef) (.int .i64 3)) fun v23_15 =>
    xIf v23_15 (
      xE Tryd.prog (sCall 11 #[(.int .u8 7)]) w14 fun v28_16 w17 =>
    xE Tryd.prog (sCall 10 #[v14_3, (vs12.getD 0 undef), v28_16]) w17 fun v29_18 w19 =>
    xR Tryd.prog (sEq .neq 24 true v29_18 (.nilIface)) w19 fun v30_20 =>
    xIf v30_20 (
      R (.returned (.bool false)) w19) (
      xP Tryd.prog (sBin .add 3 (vs12.getD 0 undef) (.int .i64 1)) fun v25_21 =>
    J11 [v25_21] w19)) (
      xE Tryd.prog (sCall 12 #[v14_3, (.int .u64 2)]) w14 fun _ w23 =>
  xE Tryd.prog (sCall 13 #[v14_3, (.int .i64 0)]) w23 fun v35_24 w25 =>
  xP Tryd.prog (sExtract v35_24 0) fun v36_26 =>
  xP Tryd.prog (sExtract v35_24 1) fun _ =>
  xE Tryd.prog (sCall 13 #[v14_3, (.int .i64 1)]) w25 fun v40_28 w29 =>
  xP Tryd.prog (sExtract v40_28 0) fun v41_30 =>
  xP Tryd.prog (sExtract v40_28 1) fun _ =>
  xE Tryd.prog (sCall 14 #[v14_3, (.int .i64 1), (.int .i64 0), (.int .u32 5)]) w29 fun v44_32 w33 =>
  xE Tryd.prog (sCall 14 #[v14_3, (.int .i64 1), (.int .i64 0), (.int .u32 5)]) w33 fun v46_34 w35 =>
  xE Tryd.prog (sCall 15 #[v14_3]) w35 fun _ w37 =>
  xE Tryd.prog (sCall 13 #[v14_3, (.int .i64 1)]) w37 fun v51_38 w39 =>
  xP Tryd.prog (sExtract v51_38 0) fun _ =>
  xP Tryd.prog (sExtract v51_38 1) fun v53_41 =>
  xE Tryd.prog (sCall 11 #[(.int .u8 0)]) w39 fun v55_42 w43 =>
  xE Tryd.prog (sCall 16 #[v36_26, v55_42]) w43 fun v56_44 w45 =>
  xIf v56_44 (
  xE Tryd.prog (sCall 11 #[(.int .u8 7)]) w45 fun v59_46 w47 =>
  xE Tryd.prog (sCall 16 #[v41_30, v59_46]) w47 fun v60_48 w49 =>
  xIf v60_48 (
  xIf v44_32 (
  xP Tryd.prog (sUn .not v46_34) fun v67_50 =>
  xIf v67_50 (
  xE Tryd.prog (sCall 17 #[v53_41]) w49 fun v71_51 w52 =>
  xR Tryd.prog (sEq .eql 37 true v71_51 (.int .i64 5)) w52 fun v72_53 =>
  R (.returned v72_53) w52) (
  R (.returned (.bool false)) w49)) (
  R (.returned (.bool false)) w49)) (
  R (.returned (.bool false)) w49)) (
  R (.returned (.bool false)) w45)))
theorem C_stavelaw6_DiskRuns {w : World} {R : Ending → World → Prop} (h : S_stavelaw6_DiskRuns  w R) : Calls Tryd.prog 3 #[] w R :=
  funcVC_sound (an := A_stavelaw6_DiskRuns) (args := []) (k := 0) Tryd.func3 (by kernel_rfl) rfl
    (Eq.mp (show S_stavelaw6_DiskRuns  w R = funcVC Tryd.prog Tryd.f3 A_stavelaw6_DiskRuns [] w R by kernel_rfl) h)

/-- stave/stavelaw6.DiskTears -/
def A_stavelaw6_DiskTears : Ann := (.seq .nil (.seq .nil (.seq (.join [28] .nil .nil) (.seq .nil (.seq (.seq .nil (.one (.loop [11] (.seq (.join [36] .nil .nil) .nil)))) (.seq .nil (.seq .nil (.seq (.seq .nil (.one (.loop [13] (.seq (.join [71] .nil .nil) .nil)))) (.seq .nil (.seq .nil (.seq (.join [109] .nil .nil) (.seq (.seq .nil (.one (.loop [16] (.seq .nil (.seq (.one (.seq .nil (.join [139] .nil .nil))) .nil))))) .nil))))))))))))
def S_stavelaw6_DiskTears (a0 : Value) (a1 : Value) (a2 : Value) (w : World) (R : Ending → World → Prop) : Prop :=
  xE Tryd.prog (sCall 9 #[(.int .i64 6)]) w fun v20_1 w2 =>
  xP Tryd.prog (sExtract v20_1 0) fun v21_3 =>
  xP Tryd.prog (sExtract v20_1 1) fun v22_4 =>
  xJoin (fun J5 =>
    xR Tryd.prog (sEq .eql 22 true v21_3 (.pointer none)) w2 fun v24_6 =>
    xIf v24_6 (
    J5 [(.bool true)] w2) (
    xR Tryd.prog (sEq .neq 24 true v22_4 (.nilIface)) w2 fun v27_7 =>
    J5 [v27_7] w2)) fun vs8 _ w10 =>
  xIf (vs8.getD 0 undef) (
    R (.returned (.bool false)) w10) (
    xE Tryd.prog (sAlloc 41) w10 fun v9_11 w12 =>
  xE Tryd.prog (sAlloc 41) w12 fun v10_13 w14 =>
  xLoop [(.int .i64 0)] w14 fun J15 vs16 _ w18 =>
    xJoin (fun J19 =>
      xP Tryd.prog (sB .len #[40] #[a0]) fun v31_20 =>
      xP Tryd.prog (sBin .lss 3 (vs16.getD 0 undef) v31_20) fun v32_21 =>
      xIf v32_21 (
      xP Tryd.prog (sBin .lss 3 (vs16.getD 0 undef) (.int .i64 20)) fun v35_22 =>
      J19 [v35_22] w18) (
      J19 [(.bool false)] w18)) fun vs23 _ w25 =>
    xIf (vs23.getD 0 undef) (
      xP Tryd.prog (sIA 40 a0 (vs16.getD 0 undef)) fun v41_26 =>
    xP Tryd.prog (sFA 44 v41_26 1) fun v42_27 =>
    xR Tryd.prog (sLoad 3 v42_27) w25 fun v43_28 =>
    xE Tryd.prog (sCall 18 #[v43_28, (.int .i64 0), (.int .i64 5)]) w25 fun v44_29 w30 =>
    xP Tryd.prog (sIA 40 a0 (vs16.getD 0 undef)) fun v49_31 =>
    xP Tryd.prog (sFA 44 v49_31 3) fun v50_32 =>
    xR Tryd.prog (sLoad 5 v50_32) w30 fun v51_33 =>
    xE Tryd.prog (sCall 11 #[v51_33]) w30 fun v52_34 w35 =>
    xE Tryd.prog (sCall 10 #[v21_3, v44_29, v52_34]) w35 fun _ w37 =>
    xP Tryd.prog (sIA 40 a0 (vs16.getD 0 undef)) fun v57_38 =>
    xP Tryd.prog (sFA 44 v57_38 3) fun v58_39 =>
    xR Tryd.prog (sLoad 5 v58_39) w37 fun v59_40 =>
    xP Tryd.prog (sIA 41 v9_11 v44_29) fun v60_41 =>
    xE Tryd.prog (sStore 5 v60_41 v59_40) w37 fun _ w42 =>
    xP Tryd.prog (sBin .add 3 (vs16.getD 0 undef) (.int .i64 1)) fun v38_43 =>
    J15 [v38_43] w42) (
      xE Tryd.prog (sCall 19 #[v21_3]) w25 fun _ w45 =>
  xR Tryd.prog (sLoad 41 v9_11) w45 fun v63_46 =>
  xE Tryd.prog (sStore 41 v10_13 v63_46) w45 fun _ w47 =>
  xLoop [(.int .i64 0)] w47 fun J48 vs49 _ w51 =>
    xJoin (fun J52 =>
      xP Tryd.prog (sB .len #[40] #[a1]) fun v66_53 =>
      xP Tryd.prog (sBin .lss 3 (vs49.getD 0 undef) v66_53) fun v67_54 =>
      xIf v67_54 (
      xP Tryd.prog (sBin .lss 3 (vs49.getD 0 undef) (.int .i64 20)) fun v70_55 =>
      J52 [v70_55] w51) (
      J52 [(.bool false)] w51)) fun vs56 _ w58 =>
    xIf (vs56.getD 0 undef) (
      xP Tryd.prog (sIA 40 a1 (vs49.getD 0 undef)) fun v76_59 =>
    xP Tryd.prog (sFA 44 v76_59 1) fun v77_60 =>
    xR Tryd.prog (sLoad 3 v77_60) w58 fun v78_61 =>
    xE Tryd.prog (sCall 18 #[v78_61, (.int .i64 0), (.int .i64 5)]) w58 fun v79_62 w63 =>
    xP Tryd.prog (sIA 40 a1 (vs49.getD 0 undef)) fun v84_64 =>
    xP Tryd.prog (sFA 44 v84_64 3) fun v85_65 =>
    xR Tryd.prog (sLoad 5 v85_65) w63 fun v86_66 =>
    xE Tryd.prog (sCall 11 #[v86_66]) w63 fun v87_67 w68 =>
    xE Tryd.prog (sCall 10 #[v21_3, v79_62, v87_67]) w68 fun _ w70 =>
    xP Tryd.prog (sIA 40 a1 (vs49.getD 0 undef)) fun v92_71 =>
    xP Tryd.prog (sFA 44 v92_71 3) fun v93_72 =>
    xR Tryd.prog (sLoad 5 v93_72) w70 fun v94_73 =>
    xP Tryd.prog (sIA 41 v10_13 v79_62) fun v95_74 =>
    xE Tryd.prog (sStore 5 v95_74 v94_73) w70 fun _ w75 =>
    xP Tryd.prog (sBin .add 3 (vs49.getD 0 undef) (.int .i64 1)) fun v73_76 =>
    J48 [v73_76] w75) (
      xE Tryd.prog (sCall 20 #[v21_3]) w58 fun v97_77 w78 =>
  xP Tryd.prog (sB .len #[46] #[v97_77]) fun v98_79 =>
  xE Tryd.prog (sCall 12 #[v21_3, a2]) w78 fun _ w81 =>
  xJoin (fun J82 =>
    xE Tryd.prog (sCall 20 #[v21_3]) w81 fun v103_83 w84 =>
    xP Tryd.prog (sB .len #[46] #[v103_83]) fun v104_85 =>
    xR Tryd.prog (sEq .neq 3 true v104_85 (.int .i64 0)) w84 fun v105_86 =>
    xIf v105_86 (
    J82 [(.bool true)] w84) (
    xP Tryd.prog (sBin .gtr 3 v98_79 (.int .i64 6)) fun v108_87 =>
    J82 [v108_87] w84)) fun vs88 _ w90 =>
  xIf (vs88.getD 0 undef) (
    R (.returned (.bool false)) w90) (
    xLoop [(.int .i64 0)] w90 fun J91 vs92 _ w94 =>
    xP Tryd.prog (sBin .lss 3 (vs92.getD 0 undef) (.int .i64 6)) fun v111_95 =>
    xIf v111_95 (
      xE Tryd.prog (sCall 13 #[v21_3, (vs92.getD 0 undef)]) w94 fun v117_96 w97 =>
    xP Tryd.prog (sExtract v117_96 0) fun v118_98 =>
    xP Tryd.prog (sExtract v117_96 1) fun v119_99 =>
    xJoin (fun J100 =>
      xR Tryd.prog (sEq .neq 24 true v119_99 (.nilIface)) w97 fun v121_101 =>
      xIf v121_101 (
      J100 [(.bool true)] w97) (
      xP Tryd.prog (sIA 41 v9_11 (vs92.getD 0 undef)) fun v125_102 =>
      xR Tryd.prog (sLoad 5 v125_102) w97 fun v126_103 =>
      xE Tryd.prog (sCall 11 #[v126_103]) w97 fun v127_104 w105 =>
      xE Tryd.prog (sCall 16 #[v118_98, v127_104]) w105 fun v128_106 w107 =>
      xP Tryd.prog (sUn .not v128_106) fun v129_108 =>
      xIf v129_108 (
      xP Tryd.prog (sIA 41 v10_13 (vs92.getD 0 undef)) fun v133_109 =>
      xR Tryd.prog (sLoad 5 v133_109) w107 fun v134_110 =>
      xE Tryd.prog (sCall 11 #[v134_110]) w107 fun v135_111 w112 =>
      xE Tryd.prog (sCall 16 #[v118_98, v135_111]) w112 fun v136_113 w114 =>
      xP Tryd.prog (sUn .not v136_113) fun v137_115 =>
      J100 [v137_115] w114) (
      J100 [(.bool false)] w107))) fun vs116 _ w118 =>
    xIf (vs116.getD 0 undef) (
      R (.returned (.bool false)) w118) (
      xP Tryd.prog (sBin .add 3 (vs92.getD 0 undef) (.int .i64 1)) fun v113_119 =>
    J91 [v113_119] w118)) (
      xE Tryd.prog (sCall 3 #[]) w94 fun v140_120 w121 =>
  R (.returned v140_120) w121)))))
theorem C_stavelaw6_DiskTears {a0 : Value} {a1 : Value} {a2 : Value} {w : World} {R : Ending → World → Prop} (h : S_stavelaw6_DiskTears a0 a1 a2 w R) : Calls Tryd.prog 4 #[a0, a1, a2] w R :=
  funcVC_sound (an := A_stavelaw6_DiskTears) (args := [a0, a1, a2]) (k := 3) Tryd.func4 (by kernel_rfl) rfl
    (Eq.mp (show S_stavelaw6_DiskTears a0 a1 a2 w R = funcVC Tryd.prog Tryd.f4 A_stavelaw6_DiskTears [a0, a1, a2] w R by kernel_rfl) h)

/-- stave/stavelaw6.DiskRots -/
def A_stavelaw6_DiskRots : Ann := (.seq .nil (.seq .nil (.seq (.join [37] .nil .nil) (.seq .nil (.seq (.join [55] .nil .nil) (.seq .nil (.seq (.join [74] .nil .nil) (.seq .nil (.seq .nil (.seq (.seq .nil (.one (.loop [85] (.seq .nil (.seq .nil (.seq (.one (.seq .nil (.seq .nil (.join [15] (.join [97] .nil .nil) .nil)))) .nil)))))) (.seq (.join [126] .nil .nil) (.seq .nil (.seq (.join [147] .nil .nil) .nil)))))))))))))
def S_stavelaw6_DiskRots (a0 : Value) (a1 : Value) (a2 : Value) (a3 : Value) (w : World) (R : Ending → World → Prop) : Prop :=
  xE Tryd.prog (sCall 9 #[(.int .i64 2)]) w fun v17_1 w2 =>
  xP Tryd.prog (sExtract v17_1 0) fun v18_3 =>
  xP Tryd.prog (sExtract v17_1 1) fun v19_4 =>
  xJoin (fun J5 =>
    xR Tryd.prog (sEq .eql 22 true v18_3 (.pointer none)) w2 fun v21_6 =>
    xIf v21_6 (
    J5 [(.bool true)] w2) (
    xR Tryd.prog (sEq .neq 24 true v19_4 (.nilIface)) w2 fun v24_7 =>
    xIf v24_7 (
    J5 [(.bool true)] w2) (
    xE Tryd.prog (sCall 11 #[a0]) w2 fun v29_8 w9 =>
    xE Tryd.prog (sCall 10 #[v18_3, (.int .i64 1), v29_8]) w9 fun v30_10 w11 =>
    xR Tryd.prog (sEq .neq 24 true v30_10 (.nilIface)) w11 fun v31_12 =>
    xIf v31_12 (
    J5 [(.bool true)] w11) (
    xE Tryd.prog (sCall 19 #[v18_3]) w11 fun v35_13 w14 =>
    xR Tryd.prog (sEq .neq 24 true v35_13 (.nilIface)) w14 fun v36_15 =>
    J5 [v36_15] w14)))) fun vs16 _ w18 =>
  xIf (vs16.getD 0 undef) (
    R (.returned (.bool false)) w18) (
    xE Tryd.prog (sCall 18 #[a1, (.int .i64 0), (.int .i64 124)]) w18 fun v39_19 w20 =>
  xJoin (fun J21 =>
    xE Tryd.prog (sCall 14 #[v18_3, (.int .i64 1), v39_19, (.int .u32 0)]) w20 fun v42_22 w23 =>
    xIf v42_22 (
    J21 [(.bool true)] w23) (
    xE Tryd.prog (sCall 14 #[v18_3, (.int .i64 1), (.int .i64 (-1)), (.int .u32 1)]) w23 fun v45_24 w25 =>
    xIf v45_24 (
    J21 [(.bool true)] w25) (
    xE Tryd.prog (sCall 14 #[v18_3, (.int .i64 1), (.int .i64 125), (.int .u32 1)]) w25 fun v49_26 w27 =>
    xIf v49_26 (
    J21 [(.bool true)] w27) (
    xE Tryd.prog (sCall 14 #[v18_3, (.int .i64 2), v39_19, (.int .u32 1)]) w27 fun v54_28 w29 =>
    J21 [v54_28] w29)))) fun vs30 _ w32 =>
  xIf (vs30.getD 0 undef) (
    R (.returned (.bool false)) w32) (
    xE Tryd.prog (sCall 13 #[v18_3, (.int .i64 1)]) w32 fun v58_33 w34 =>
  xP Tryd.prog (sExtract v58_33 0) fun v59_35 =>
  xP Tryd.prog (sExtract v58_33 1) fun _ =>
  xJoin (fun J37 =>
    xE Tryd.prog (sCall 11 #[a0]) w34 fun v63_38 w39 =>
    xE Tryd.prog (sCall 16 #[v59_35, v63_38]) w39 fun v64_40 w41 =>
    xP Tryd.prog (sUn .not v64_40) fun v65_42 =>
    xIf v65_42 (
    J37 [(.bool true)] w41) (
    xE Tryd.prog (sCall 14 #[v18_3, (.int .i64 1), v39_19, a2]) w41 fun v70_43 w44 =>
    xR Tryd.prog (sEq .neq 35 true a2 (.int .u32 0)) w44 fun v72_45 =>
    xR Tryd.prog (sEq .neq 4 false v70_43 v72_45) w44 fun v73_46 =>
    J37 [v73_46] w44)) fun vs47 _ w49 =>
  xIf (vs47.getD 0 undef) (
    R (.returned (.bool false)) w49) (
    xE Tryd.prog (sCall 13 #[v18_3, (.int .i64 1)]) w49 fun v77_50 w51 =>
  xP Tryd.prog (sExtract v77_50 0) fun v78_52 =>
  xP Tryd.prog (sExtract v77_50 1) fun _ =>
  xP Tryd.prog (sB .len #[28] #[v78_52]) fun v81_54 =>
  xR Tryd.prog (sEq .neq 3 true v81_54 (.int .i64 128)) w51 fun v82_55 =>
  xIf v82_55 (
    R (.returned (.bool false)) w51) (
    xP Tryd.prog (sB .len #[28] #[v78_52]) fun v84_56 =>
  xLoop [(.int .i64 0)] w51 fun J57 vs58 _ w60 =>
    xP Tryd.prog (sBin .lss 3 (vs58.getD 0 undef) v84_56) fun v86_61 =>
    xIf v86_61 (
      xJoin (fun J62 =>
      xJoin (fun J63 =>
        xP Tryd.prog (sBin .geq 3 (vs58.getD 0 undef) v39_19) fun v91_64 =>
        xIf v91_64 (
        xP Tryd.prog (sBin .add 3 v39_19 (.int .i64 4)) fun v95_65 =>
        xP Tryd.prog (sBin .lss 3 (vs58.getD 0 undef) v95_65) fun v96_66 =>
        J63 [v96_66] w60) (
        J63 [(.bool false)] w60)) fun vs67 _ w69 =>
      xIf (vs67.getD 0 undef) (
        xP Tryd.prog (sBin .sub 3 (vs58.getD 0 undef) v39_19) fun v102_70 =>
        xP Tryd.prog (sBin .mul 3 (.int .i64 8) v102_70) fun v103_71 =>
        xP Tryd.prog (sBin .shr 35 a2 v103_71) fun v104_72 =>
        xP Tryd.prog (sConv 35 5 v104_72) fun v105_73 =>
        xP Tryd.prog (sBin .xor 5 a0 v105_73) fun v106_74 =>
        J62 [v106_74] w69) (
        J62 [a0] w69)) fun vs75 _ w77 =>
    xP Tryd.prog (sIA 28 v78_52 (vs58.getD 0 undef)) fun v109_78 =>
    xR Tryd.prog (sLoad 5 v109_78) w77 fun v110_79 =>
    xR Tryd.prog (sEq .neq 5 false v110_79 (vs75.getD 0 undef)) w77 fun v112_80 =>
    xIf v112_80 (
      R (.returned (.bool false)) w77) (
      xP Tryd.prog (sBin .add 3 (vs58.getD 0 undef) (.int .i64 1)) fun v113_81 =>
    J57 [v113_81] w77)) (
      xJoin (fun J82 =>
    xE Tryd.prog (sCall 14 #[v18_3, (.int .i64 1), v39_19, (.int .u32 9)]) w60 fun v116_83 w84 =>
    xR Tryd.prog (sEq .eql 35 true a2 (.int .u32 0)) w84 fun v118_85 =>
    xR Tryd.prog (sEq .neq 4 false v116_83 v118_85) w84 fun v119_86 =>
    xIf v119_86 (
    J82 [(.bool true)] w84) (
    xE Tryd.prog (sCall 11 #[a3]) w84 fun v123_87 w88 =>
    xE Tryd.prog (sCall 10 #[v18_3, (.int .i64 1), v123_87]) w88 fun v124_89 w90 =>
    xR Tryd.prog (sEq .neq 24 true v124_89 (.nilIface)) w90 fun v125_91 =>
    J82 [v125_91] w90)) fun vs92 _ w94 =>
  xIf (vs92.getD 0 undef) (
    R (.returned (.bool false)) w94) (
    xE Tryd.prog (sCall 13 #[v18_3, (.int .i64 1)]) w94 fun v129_95 w96 =>
  xP Tryd.prog (sExtract v129_95 0) fun v130_97 =>
  xP Tryd.prog (sExtract v129_95 1) fun _ =>
  xJoin (fun J99 =>
    xE Tryd.prog (sCall 11 #[a3]) w96 fun v134_100 w101 =>
    xE Tryd.prog (sCall 16 #[v130_97, v134_100]) w101 fun v135_102 w103 =>
    xP Tryd.prog (sUn .not v135_102) fun v136_104 =>
    xIf v136_104 (
    J99 [(.bool true)] w103) (
    xE Tryd.prog (sCall 19 #[v18_3]) w103 fun v139_105 w106 =>
    xR Tryd.prog (sEq .neq 24 true v139_105 (.nilIface)) w106 fun v140_107 =>
    xIf v140_107 (
    J99 [(.bool true)] w106) (
    xE Tryd.prog (sCall 14 #[v18_3, (.int .i64 1), v39_19, (.int .u32 1)]) w106 fun v145_108 w109 =>
    xP Tryd.prog (sUn .not v145_108) fun v146_110 =>
    J99 [v146_110] w109))) fun vs111 _ w113 =>
  xIf (vs111.getD 0 undef) (
    R (.returned (.bool false)) w113) (
    xE Tryd.prog (sCall 3 #[]) w113 fun v148_114 w115 =>
  R (.returned v148_114) w115)))))))
theorem C_stavelaw6_DiskRots {a0 : Value} {a1 : Value} {a2 : Value} {a3 : Value} {w : World} {R : Ending → World → Prop} (h : S_stavelaw6_DiskRots a0 a1 a2 a3 w R) : Calls Tryd.prog 5 #[a0, a1, a2, a3] w R :=
  funcVC_sound (an := A_stavelaw6_DiskRots) (args := [a0, a1, a2, a3]) (k := 4) Tryd.func5 (by kernel_rfl) rfl
    (Eq.mp (show S_stavelaw6_DiskRots a0 a1 a2 a3 w R = funcVC Tryd.prog Tryd.f5 A_stavelaw6_DiskRots [a0, a1, a2, a3] w R by kernel_rfl) h)

/-- stave/stavelaw6.DiskFlushed -/
def A_stavelaw6_DiskFlushed : Ann := (.seq .nil (.seq .nil (.seq (.join [25] .nil .nil) (.seq .nil (.seq (.seq .nil (.one (.loop [10] (.seq (.join [33] .nil .nil) .nil)))) (.seq (.join [67] .nil .nil) (.seq .nil (.seq (.seq .nil (.one (.loop [12] (.seq (.join [78] .nil .nil) (.seq (.one (.seq (.draw (.pre [0, 1, 2, 3, 4, 5, 7, 8, 9, 10, 11, 6, 12, 13, 14] .nil) [0, 0, 0, 6, 14, 30, 62, 0, 0, 384, 896, 1920, 4094, 8191, 16383]) .nil)) .nil))))) (.seq .nil (.seq (.seq .nil (.one (.loop [98] (.seq .nil (.seq .nil (.seq (.one (.seq .nil (.seq .nil (.join [117] .nil .nil)))) .nil)))))) .nil))))))))))
def S_stavelaw6_DiskFlushed (a0 : Value) (a1 : Value) (a2 : Value) (w : World) (R : Ending → World → Prop) : Prop :=
  xE Tryd.prog (sCall 9 #[(.int .i64 5)]) w fun v17_1 w2 =>
  xP Tryd.prog (sExtract v17_1 0) fun v18_3 =>
  xP Tryd.prog (sExtract v17_1 1) fun v19_4 =>
  xJoin (fun J5 =>
    xR Tryd.prog (sEq .eql 22 true v18_3 (.pointer none)) w2 fun v21_6 =>
    xIf v21_6 (
    J5 [(.bool true)] w2) (
    xR Tryd.prog (sEq .neq 24 true v19_4 (.nilIface)) w2 fun v24_7 =>
    J5 [v24_7] w2)) fun vs8 _ w10 =>
  xIf (vs8.getD 0 undef) (
    R (.returned (.bool false)) w10) (
    xE Tryd.prog (sAlloc 50) w10 fun v9_11 w12 =>
  xLoop [(.int .i64 0)] w12 fun J13 vs14 _ w16 =>
    xJoin (fun J17 =>
      xP Tryd.prog (sB .len #[40] #[a0]) fun v28_18 =>
      xP Tryd.prog (sBin .lss 3 (vs14.getD 0 undef) v28_18) fun v29_19 =>
      xIf v29_19 (
      xP Tryd.prog (sBin .lss 3 (vs14.getD 0 undef) (.int .i64 20)) fun v32_20 =>
      J17 [v32_20] w16) (
      J17 [(.bool false)] w16)) fun vs21 _ w23 =>
    xIf (vs21.getD 0 undef) (
      xP Tryd.prog (sIA 40 a0 (vs14.getD 0 undef)) fun v38_24 =>
    xP Tryd.prog (sFA 44 v38_24 1) fun v39_25 =>
    xR Tryd.prog (sLoad 3 v39_25) w23 fun v40_26 =>
    xE Tryd.prog (sCall 18 #[v40_26, (.int .i64 0), (.int .i64 4)]) w23 fun v41_27 w28 =>
    xP Tryd.prog (sIA 40 a0 (vs14.getD 0 undef)) fun v46_29 =>
    xP Tryd.prog (sFA 44 v46_29 3) fun v47_30 =>
    xR Tryd.prog (sLoad 5 v47_30) w28 fun v48_31 =>
    xE Tryd.prog (sCall 11 #[v48_31]) w28 fun v49_32 w33 =>
    xE Tryd.prog (sCall 10 #[v18_3, v41_27, v49_32]) w33 fun v50_34 w35 =>
    xR Tryd.prog (sEq .neq 24 true v50_34 (.nilIface)) w35 fun v51_36 =>
    xIf v51_36 (
      R (.returned (.bool false)) w35) (
      xP Tryd.prog (sIA 40 a0 (vs14.getD 0 undef)) fun v55_37 =>
    xP Tryd.prog (sFA 44 v55_37 3) fun v56_38 =>
    xR Tryd.prog (sLoad 5 v56_38) w35 fun v57_39 =>
    xP Tryd.prog (sIA 50 v9_11 v41_27) fun v58_40 =>
    xE Tryd.prog (sStore 5 v58_40 v57_39) w35 fun _ w41 =>
    xP Tryd.prog (sBin .add 3 (vs14.getD 0 undef) (.int .i64 1)) fun v35_42 =>
    J13 [v35_42] w41)) (
      xJoin (fun J43 =>
    xE Tryd.prog (sCall 19 #[v18_3]) w23 fun v60_44 w45 =>
    xR Tryd.prog (sEq .neq 24 true v60_44 (.nilIface)) w45 fun v61_46 =>
    xIf v61_46 (
    J43 [(.bool true)] w45) (
    xE Tryd.prog (sCall 20 #[v18_3]) w45 fun v64_47 w48 =>
    xP Tryd.prog (sB .len #[46] #[v64_47]) fun v65_49 =>
    xR Tryd.prog (sEq .neq 3 true v65_49 (.int .i64 0)) w48 fun v66_50 =>
    J43 [v66_50] w48)) fun vs51 _ w53 =>
  xIf (vs51.getD 0 undef) (
    R (.returned (.bool false)) w53) (
    xE Tryd.prog (sCall 12 #[v18_3, a2]) w53 fun _ w55 =>
  xLoop [(.int .i64 0)] w55 fun J56 vs57 _ w59 =>
    xJoin (fun J60 =>
      xP Tryd.prog (sB .len #[40] #[a1]) fun v73_61 =>
      xP Tryd.prog (sBin .lss 3 (vs57.getD 0 undef) v73_61) fun v74_62 =>
      xIf v74_62 (
      xP Tryd.prog (sBin .lss 3 (vs57.getD 0 undef) (.int .i64 9)) fun v77_63 =>
      J60 [v77_63] w59) (
      J60 [(.bool false)] w59)) fun vs64 _ w66 =>
    xIf (vs64.getD 0 undef) (
      xP Tryd.prog (sIA 40 a1 (vs57.getD 0 undef)) fun v84_67 =>
    xP Tryd.prog (sFA 44 v84_67 1) fun v85_68 =>
    xR Tryd.prog (sLoad 3 v85_68) (w66.drew) fun v86_69 =>
    xP Tryd.prog (sIA 40 a1 (vs57.getD 0 undef)) fun v90_70 =>
    xP Tryd.prog (sFA 44 v90_70 3) fun v91_71 =>
    xR Tryd.prog (sLoad 5 v91_71) (w66.drew) fun v92_72 =>
    xE Tryd.prog (sCall 18 #[v86_69, (.int .i64 0), (.int .i64 4)]) (w66.drew) fun v87_73 w74 =>
    xStill Tryd.prog (sLoad 5 v91_71) v92_72 w74 <|
    xE Tryd.prog (sCall 11 #[v92_72]) w74 fun v93_75 w76 =>
    xE Tryd.prog (sCall 10 #[v18_3, v87_73, v93_75]) w76 fun v94_77 w78 =>
    xR Tryd.prog (sEq .neq 24 true v94_77 (.nilIface)) w78 fun v95_79 =>
    xIf v95_79 (
      R (.returned (.bool false)) w78) (
      xP Tryd.prog (sBin .add 3 (vs57.getD 0 undef) (.int .i64 1)) fun v80_80 =>
    J56 [v80_80] w78)) (
      xE Tryd.prog (sCall 12 #[v18_3, (.int .u64 0)]) w66 fun _ w82 =>
  xLoop [(.int .i64 0)] w82 fun J83 vs84 _ w86 =>
    xP Tryd.prog (sBin .lss 3 (vs84.getD 0 undef) (.int .i64 5)) fun v99_87 =>
    xIf v99_87 (
      xE Tryd.prog (sCall 13 #[v18_3, (vs84.getD 0 undef)]) w86 fun v104_88 w89 =>
    xP Tryd.prog (sExtract v104_88 0) fun v105_90 =>
    xP Tryd.prog (sExtract v104_88 1) fun v106_91 =>
    xJoin (fun J92 =>
      xR Tryd.prog (sEq .neq 24 true v106_91 (.nilIface)) w89 fun v108_93 =>
      xIf v108_93 (
      J92 [(.bool true)] w89) (
      xP Tryd.prog (sIA 50 v9_11 (vs84.getD 0 undef)) fun v112_94 =>
      xR Tryd.prog (sLoad 5 v112_94) w89 fun v113_95 =>
      xE Tryd.prog (sCall 11 #[v113_95]) w89 fun v114_96 w97 =>
      xE Tryd.prog (sCall 16 #[v105_90, v114_96]) w97 fun v115_98 w99 =>
      xP Tryd.prog (sUn .not v115_98) fun v116_100 =>
      J92 [v116_100] w99)) fun vs101 _ w103 =>
    xIf (vs101.getD 0 undef) (
      R (.returned (.bool false)) w103) (
      xP Tryd.prog (sBin .add 3 (vs84.getD 0 undef) (.int .i64 1)) fun v118_104 =>
    J83 [v118_104] w103)) (
      xE Tryd.prog (sCall 3 #[]) w86 fun v119_105 w106 =>
  R (.returned v119_105) w106)))))
theorem C_stavelaw6_DiskFlushed {a0 : Value} {a1 : Value} {a2 : Value} {w : World} {R : Ending → World → Prop} (h : S_stavelaw6_DiskFlushed a0 a1 a2 w R) : Calls Tryd.prog 6 #[a0, a1, a2] w R :=
  funcVC_sound (an := A_stavelaw6_DiskFlushed) (args := [a0, a1, a2]) (k := 3) Tryd.func6 (by kernel_rfl) rfl
    (Eq.mp (show S_stavelaw6_DiskFlushed a0 a1 a2 w R = funcVC Tryd.prog Tryd.f6 A_stavelaw6_DiskFlushed [a0, a1, a2] w R by kernel_rfl) h)

/-- stave/stavelaw6.DiskGone -/
def A_stavelaw6_DiskGone : Ann := (.seq .nil (.seq .nil (.seq (.join [25] .nil .nil) (.seq (.seq .nil (.one (.loop [9] (.seq (.join [33] .nil .nil) (.join [] (.one (.seq (.draw (.pre [0, 1, 2, 3, 4, 5, 7, 8, 9, 10, 11, 12, 6, 13, 14] .nil) [0, 0, 0, 6, 14, 30, 62, 0, 0, 384, 896, 1920, 3968, 8190, 16383]) .nil)) .nil))))) (.seq .nil (.seq .nil (.seq .nil (.seq (.join [102] .nil .nil) (.seq .nil (.seq .nil (.seq (.seq .nil (.one (.loop [13] (.seq .nil (.seq (.one (.seq .nil (.join [124] .nil .nil))) .nil))))) .nil)))))))))))
def S_stavelaw6_DiskGone (a0 : Value) (a1 : Value) (a2 : Value) (w : World) (R : Ending → World → Prop) : Prop :=
  xE Tryd.prog (sCall 9 #[(.int .i64 4)]) w fun v17_1 w2 =>
  xP Tryd.prog (sExtract v17_1 0) fun v18_3 =>
  xP Tryd.prog (sExtract v17_1 1) fun v19_4 =>
  xJoin (fun J5 =>
    xR Tryd.prog (sEq .eql 22 true v18_3 (.pointer none)) w2 fun v21_6 =>
    xIf v21_6 (
    J5 [(.bool true)] w2) (
    xR Tryd.prog (sEq .neq 24 true v19_4 (.nilIface)) w2 fun v24_7 =>
    J5 [v24_7] w2)) fun vs8 _ w10 =>
  xIf (vs8.getD 0 undef) (
    R (.returned (.bool false)) w10) (
    xLoop [(.int .i64 0)] w10 fun J11 vs12 _ w14 =>
    xJoin (fun J15 =>
      xP Tryd.prog (sB .len #[40] #[a0]) fun v28_16 =>
      xP Tryd.prog (sBin .lss 3 (vs12.getD 0 undef) v28_16) fun v29_17 =>
      xIf v29_17 (
      xP Tryd.prog (sBin .lss 3 (vs12.getD 0 undef) (.int .i64 12)) fun v32_18 =>
      J15 [v32_18] w14) (
      J15 [(.bool false)] w14)) fun vs19 _ w21 =>
    xIf (vs19.getD 0 undef) (
      xJoin (fun J22 =>
      xP Tryd.prog (sIA 40 a0 (vs12.getD 0 undef)) fun v39_23 =>
      xP Tryd.prog (sFA 44 v39_23 1) fun v40_24 =>
      xR Tryd.prog (sLoad 3 v40_24) (w21.drew) fun v41_25 =>
      xP Tryd.prog (sIA 40 a0 (vs12.getD 0 undef)) fun v45_26 =>
      xP Tryd.prog (sFA 44 v45_26 3) fun v46_27 =>
      xR Tryd.prog (sLoad 5 v46_27) (w21.drew) fun v47_28 =>
      xP Tryd.prog (sBin .or 5 v47_28 (.int .u8 1)) fun v48_29 =>
      xE Tryd.prog (sCall 18 #[v41_25, (.int .i64 0), (.int .i64 3)]) (w21.drew) fun v42_30 w31 =>
      xStill Tryd.prog (sLoad 5 v46_27) v47_28 w31 <|
      xE Tryd.prog (sCall 11 #[v48_29]) w31 fun v49_32 w33 =>
      xE Tryd.prog (sCall 10 #[v18_3, v42_30, v49_32]) w33 fun _ w35 =>
      xP Tryd.prog (sIA 40 a0 (vs12.getD 0 undef)) fun v53_36 =>
      xP Tryd.prog (sFA 44 v53_36 0) fun v54_37 =>
      xR Tryd.prog (sLoad 3 v54_37) w35 fun v55_38 =>
      xR Tryd.prog (sEq .eql 3 true v55_38 (.int .i64 2)) w35 fun v56_39 =>
      xIf v56_39 (
        xE Tryd.prog (sCall 19 #[v18_3]) w35 fun _ w41 =>
        J22 [] w41) (
        J22 [] w35)) fun _ _ w44 =>
    xP Tryd.prog (sBin .add 3 (vs12.getD 0 undef) (.int .i64 1)) fun v35_45 =>
    J11 [v35_45] w44) (
      xE Tryd.prog (sCall 15 #[v18_3]) w21 fun _ w47 =>
  xE Tryd.prog (sCall 18 #[a2, (.int .i64 0), (.int .i64 3)]) w47 fun v62_48 w49 =>
  xE Tryd.prog (sCall 13 #[v18_3, v62_48]) w49 fun v66_50 w51 =>
  xP Tryd.prog (sExtract v66_50 0) fun _ =>
  xP Tryd.prog (sExtract v66_50 1) fun v68_53 =>
  xJoin (fun J54 =>
    xE Tryd.prog (sCall 21 #[v18_3]) w51 fun v70_55 w56 =>
    xP Tryd.prog (sUn .not v70_55) fun v71_57 =>
    xIf v71_57 (
    J54 [(.bool true)] w56) (
    xE Tryd.prog (sCall 17 #[v68_53]) w56 fun v74_58 w59 =>
    xR Tryd.prog (sEq .neq 37 true v74_58 (.int .i64 5)) w59 fun v75_60 =>
    xIf v75_60 (
    J54 [(.bool true)] w59) (
    xE Tryd.prog (sCall 11 #[a1]) w59 fun v81_61 w62 =>
    xE Tryd.prog (sCall 10 #[v18_3, v62_48, v81_61]) w62 fun v82_63 w64 =>
    xE Tryd.prog (sCall 17 #[v82_63]) w64 fun v83_65 w66 =>
    xR Tryd.prog (sEq .neq 37 true v83_65 (.int .i64 5)) w66 fun v84_67 =>
    xIf v84_67 (
    J54 [(.bool true)] w66) (
    xE Tryd.prog (sCall 19 #[v18_3]) w66 fun v88_68 w69 =>
    xE Tryd.prog (sCall 17 #[v88_68]) w69 fun v89_70 w71 =>
    xR Tryd.prog (sEq .neq 37 true v89_70 (.int .i64 5)) w71 fun v90_72 =>
    xIf v90_72 (
    J54 [(.bool true)] w71) (
    xE Tryd.prog (sCall 14 #[v18_3, v62_48, (.int .i64 0), (.int .u32 1)]) w71 fun v95_73 w74 =>
    xIf v95_73 (
    J54 [(.bool true)] w74) (
    xE Tryd.prog (sCall 20 #[v18_3]) w74 fun v99_75 w76 =>
    xP Tryd.prog (sB .len #[46] #[v99_75]) fun v100_77 =>
    xR Tryd.prog (sEq .neq 3 true v100_77 (.int .i64 0)) w76 fun v101_78 =>
    J54 [v101_78] w76)))))) fun vs79 _ w81 =>
  xIf (vs79.getD 0 undef) (
    R (.returned (.bool false)) w81) (
    xE Tryd.prog (sCall 12 #[v18_3, (.int .u64 18446744073709551615)]) w81 fun _ w83 =>
  xE Tryd.prog (sCall 22 #[v18_3]) w83 fun _ w85 =>
  xLoop [(.int .i64 0)] w85 fun J86 vs87 _ w89 =>
    xP Tryd.prog (sBin .lss 3 (vs87.getD 0 undef) (.int .i64 4)) fun v108_90 =>
    xIf v108_90 (
      xE Tryd.prog (sCall 13 #[v18_3, (vs87.getD 0 undef)]) w89 fun v114_91 w92 =>
    xP Tryd.prog (sExtract v114_91 0) fun v115_93 =>
    xP Tryd.prog (sExtract v114_91 1) fun v116_94 =>
    xJoin (fun J95 =>
      xR Tryd.prog (sEq .neq 24 true v116_94 (.nilIface)) w92 fun v118_96 =>
      xIf v118_96 (
      J95 [(.bool true)] w92) (
      xE Tryd.prog (sCall 11 #[(.int .u8 0)]) w92 fun v121_97 w98 =>
      xE Tryd.prog (sCall 16 #[v115_93, v121_97]) w98 fun v122_99 w100 =>
      xP Tryd.prog (sUn .not v122_99) fun v123_101 =>
      J95 [v123_101] w100)) fun vs102 _ w104 =>
    xIf (vs102.getD 0 undef) (
      R (.returned (.bool false)) w104) (
      xP Tryd.prog (sBin .add 3 (vs87.getD 0 undef) (.int .i64 1)) fun v110_105 =>
    J86 [v110_105] w104)) (
      xE Tryd.prog (sCall 21 #[v18_3]) w89 fun v126_106 w107 =>
  xP Tryd.prog (sUn .not v126_106) fun v127_108 =>
  xIf v127_108 (
  xE Tryd.prog (sCall 11 #[a1]) w107 fun v132_109 w110 =>
  xE Tryd.prog (sCall 10 #[v18_3, v62_48, v132_109]) w110 fun v133_111 w112 =>
  xR Tryd.prog (sEq .eql 24 true v133_111 (.nilIface)) w112 fun v134_113 =>
  xIf v134_113 (
  xE Tryd.prog (sCall 19 #[v18_3]) w112 fun v138_114 w115 =>
  xR Tryd.prog (sEq .eql 24 true v138_114 (.nilIface)) w115 fun v139_116 =>
  xIf v139_116 (
  xE Tryd.prog (sCall 3 #[]) w115 fun v142_117 w118 =>
  R (.returned v142_117) w118) (
  R (.returned (.bool false)) w115)) (
  R (.returned (.bool false)) w112)) (
  R (.returned (.bool false)) w107)))))
theorem C_stavelaw6_DiskGone {a0 : Value} {a1 : Value} {a2 : Value} {w : World} {R : Ending → World → Prop} (h : S_stavelaw6_DiskGone a0 a1 a2 w R) : Calls Tryd.prog 7 #[a0, a1, a2] w R :=
  funcVC_sound (an := A_stavelaw6_DiskGone) (args := [a0, a1, a2]) (k := 3) Tryd.func7 (by kernel_rfl) rfl
    (Eq.mp (show S_stavelaw6_DiskGone a0 a1 a2 w R = funcVC Tryd.prog Tryd.f7 A_stavelaw6_DiskGone [a0, a1, a2] w R by kernel_rfl) h)

/-- stave/stavelaw6.DiskPlays -/
def A_stavelaw6_DiskPlays : Ann := (.seq .nil (.seq .nil (.join [5] .nil (.seq .nil (.seq .nil (.seq (.join [50] .nil .nil) (.seq (.seq .nil (.one (.loop [10] (.seq (.join [62] .nil .nil) (.seq (.one (.seq .nil (.seq .nil (.join [12] (.seq .nil (.one (.seq .nil (.seq (.seq .nil (.join [13] .nil (.seq .nil (.draw (.pre [0, 1, 2, 3, 4, 5, 6, 9, 10, 11, 12, 7, 8, 13, 14, 15, 16, 17, 18, 19, 20] .nil) [0, 0, 2, 0, 0, 16, 56, 127, 255, 0, 0, 1024, 0, 8191, 16383, 32767, 65535, 65535, 262143, 524287, 1048575])))) (.seq .nil (.seq .nil (.seq .nil (.seq .nil (.seq .nil (.seq (.draw (.pre [0, 1, 2, 3, 4, 5, 6, 7, 9, 10, 11, 12, 13, 14, 15, 16, 8, 17, 18, 19] .nil) [0, 0, 2, 0, 8, 0, 32, 96, 255, 0, 0, 1024, 0, 4096, 0, 16384, 49152, 131071, 262143, 524287]) .nil)))))))))) (.seq .nil (.seq (.seq .nil (.one (.loop [12, 15, 158] (.seq .nil (.seq .nil (.join [12, 15] (.one (.seq .nil (.join [15] .nil .nil))) .nil)))))) (.seq .nil (.seq .nil (.join [247] (.draw (.pre [0, 1, 2, 3, 5, 4, 6, 7, 8, 9, 11, 10, 12, 13, 14, 15, 16, 18, 19, 20, 21, 17, 22, 23, 24, 25, 27, 28, 29, 30, 31, 26, 32, 33] .nil) [0, 1, 3, 7, 15, 7, 63, 127, 255, 511, 1023, 511, 4095, 8191, 16383, 32767, 65535, 131071, 65535, 327679, 851967, 1900543, 4194303, 8388607, 16777215, 33554431, 67108863, 33554431, 167772159, 436207615, 973078527, 2046820351, 4294967295, 8589934591]) .nil))))))))) .nil))))) .nil)))))))
def S_stavelaw6_DiskPlays (a0 : Value) (a1 : Value) (w : World) (R : Ending → World → Prop) : Prop :=
  xJoin (fun J1 =>
    xP Tryd.prog (sBin .gtr 3 a0 (.int .i64 12)) fun v29_2 =>
    xIf v29_2 (
      J1 [(.int .i64 12)] w) (
      J1 [a0] w)) fun vs3 _ w5 =>
  xE Tryd.prog (sCall 9 #[(vs3.getD 0 undef)]) w5 fun v32_6 w7 =>
  xP Tryd.prog (sExtract v32_6 0) fun v33_8 =>
  xP Tryd.prog (sExtract v32_6 1) fun v34_9 =>
  xE Tryd.prog (sCall 23 #[(vs3.getD 0 undef)]) w7 fun v37_10 w11 =>
  xP Tryd.prog (sExtract v37_10 0) fun v38_12 =>
  xP Tryd.prog (sExtract v37_10 1) fun v39_13 =>
  xJoin (fun J14 =>
    xR Tryd.prog (sEq .eql 22 true v33_8 (.pointer none)) w11 fun v41_15 =>
    xR Tryd.prog (sEq .eql 52 true v38_12 (.pointer none)) w11 fun v43_16 =>
    xR Tryd.prog (sEq .neq 4 false v41_15 v43_16) w11 fun v44_17 =>
    xIf v44_17 (
    J14 [(.bool true)] w11) (
    xE Tryd.prog (sCall 17 #[v34_9]) w11 fun v47_18 w19 =>
    xR Tryd.prog (sEq .neq 3 false v47_18 v39_13) w19 fun v49_20 =>
    J14 [v49_20] w19)) fun vs21 _ w23 =>
  xIf (vs21.getD 0 undef) (
    R (.returned (.bool false)) w23) (
    xLoop [(.int .i64 0)] w23 fun J24 vs25 _ w27 =>
    xJoin (fun J28 =>
      xP Tryd.prog (sB .len #[40] #[a1]) fun v53_29 =>
      xP Tryd.prog (sBin .lss 3 (vs25.getD 0 undef) v53_29) fun v54_30 =>
      xIf v54_30 (
      xP Tryd.prog (sBin .lss 3 (vs25.getD 0 undef) (.int .i64 40)) fun v57_31 =>
      xIf v57_31 (
      xR Tryd.prog (sEq .neq 22 true v33_8 (.pointer none)) w27 fun v61_32 =>
      J28 [v61_32] w27) (
      J28 [(.bool false)] w27)) (
      J28 [(.bool false)] w27)) fun vs33 _ w35 =>
    xIf (vs33.getD 0 undef) (
      xP Tryd.prog (sIA 40 a1 (vs25.getD 0 undef)) fun v67_36 =>
    xR Tryd.prog (sLoad 44 v67_36) w35 fun v68_37 =>
    xE Tryd.prog (sAlloc 44) w35 fun v11_38 w39 =>
    xE Tryd.prog (sStore 44 v11_38 v68_37) w39 fun _ w40 =>
    xJoin (fun J41 =>
      xP Tryd.prog (sFA 44 v11_38 0) fun v69_42 =>
      xR Tryd.prog (sLoad 3 v69_42) w40 fun v70_43 =>
      xR Tryd.prog (sEq .eql 3 true v70_43 (.int .i64 1)) w40 fun v72_44 =>
      xIf v72_44 (
        xP Tryd.prog (sFA 44 v11_38 3) fun v73_45 =>
        xR Tryd.prog (sLoad 5 v73_45) w40 fun v74_46 =>
        xE Tryd.prog (sCall 11 #[v74_46]) w40 fun v75_47 w48 =>
        xJoin (fun J49 =>
          xP Tryd.prog (sFA 44 v11_38 5) fun v76_50 =>
          xR Tryd.prog (sLoad 4 v76_50) w48 fun v77_51 =>
          xIf v77_51 (
            xP Tryd.prog (sSlice 28 v75_47 (some (.int .i64 1)) none none) fun v79_52 =>
            J49 [v79_52] w48) (
            J49 [v75_47] w48)) fun vs53 _ w55 =>
        xE Tryd.prog (sCall 24 #[(vs53.getD 0 undef), (.int .u8 9)]) w55 fun v81_56 w57 =>
        xP Tryd.prog (sFA 44 v11_38 1) fun v83_58 =>
        xR Tryd.prog (sLoad 3 v83_58) (w57.drew) fun v84_59 =>
        xP Tryd.prog (sB .len #[28] #[(vs53.getD 0 undef)]) fun v87_60 =>
        xP Tryd.prog (sSlice 28 v81_56 none (some v87_60) none) fun v88_61 =>
        xP Tryd.prog (sFA 44 v11_38 1) fun v92_62 =>
        xR Tryd.prog (sLoad 3 v92_62) (w57.drew) fun v93_63 =>
        xE Tryd.prog (sCall 10 #[v33_8, v84_59, v88_61]) (w57.drew) fun v89_64 w65 =>
        xStill Tryd.prog (sLoad 3 v92_62) v93_63 w65 <|
        xE Tryd.prog (sCall 17 #[v89_64]) w65 fun v90_66 w67 =>
        xStill Tryd.prog (sLoad 3 v92_62) v93_63 w67 <|
        xE Tryd.prog (sCall 25 #[v38_12, v93_63, (vs53.getD 0 undef)]) w67 fun v95_68 w69 =>
        xR Tryd.prog (sEq .eql 3 false v90_66 v95_68) w69 fun v96_70 =>
        xIf v96_70 (
        xE Tryd.prog (sCall 26 #[v81_56, (vs53.getD 0 undef), (.int .u8 9)]) w69 fun v100_71 w72 =>
        J41 [v100_71] w72) (
        J41 [(.bool false)] w69)) (
        xR Tryd.prog (sEq .eql 3 true v70_43 (.int .i64 2)) w40 fun v103_73 =>
        xIf v103_73 (
          xE Tryd.prog (sCall 19 #[v33_8]) w40 fun v105_74 w75 =>
          xE Tryd.prog (sCall 17 #[v105_74]) w75 fun v106_76 w77 =>
          xE Tryd.prog (sCall 27 #[v38_12]) w77 fun v108_78 w79 =>
          xR Tryd.prog (sEq .eql 3 false v106_76 v108_78) w79 fun v109_80 =>
          J41 [v109_80] w79) (
          xR Tryd.prog (sEq .eql 3 true v70_43 (.int .i64 3)) w40 fun v111_81 =>
          xIf v111_81 (
            xP Tryd.prog (sFA 44 v11_38 4) fun v113_82 =>
            xR Tryd.prog (sLoad 31 v113_82) w40 fun v114_83 =>
            xE Tryd.prog (sCall 12 #[v33_8, v114_83]) w40 fun _ w85 =>
            xP Tryd.prog (sFA 44 v11_38 4) fun v117_86 =>
            xR Tryd.prog (sLoad 31 v117_86) w85 fun v118_87 =>
            xE Tryd.prog (sCall 28 #[v38_12, v118_87]) w85 fun _ w89 =>
            J41 [(.bool true)] w89) (
            xR Tryd.prog (sEq .eql 3 true v70_43 (.int .i64 4)) w40 fun v121_90 =>
            xIf v121_90 (
              xP Tryd.prog (sFA 44 v11_38 1) fun v123_91 =>
              xR Tryd.prog (sLoad 3 v123_91) (w40.drew) fun v124_92 =>
              xP Tryd.prog (sFA 44 v11_38 2) fun v125_93 =>
              xR Tryd.prog (sLoad 3 v125_93) (w40.drew) fun v126_94 =>
              xP Tryd.prog (sFA 44 v11_38 4) fun v127_95 =>
              xR Tryd.prog (sLoad 31 v127_95) (w40.drew) fun v128_96 =>
              xP Tryd.prog (sConv 31 35 v128_96) fun v129_97 =>
              xP Tryd.prog (sFA 44 v11_38 1) fun v132_98 =>
              xR Tryd.prog (sLoad 3 v132_98) (w40.drew) fun v133_99 =>
              xP Tryd.prog (sFA 44 v11_38 2) fun v134_100 =>
              xR Tryd.prog (sLoad 3 v134_100) (w40.drew) fun v135_101 =>
              xP Tryd.prog (sFA 44 v11_38 4) fun v136_102 =>
              xR Tryd.prog (sLoad 31 v136_102) (w40.drew) fun v137_103 =>
              xP Tryd.prog (sConv 31 35 v137_103) fun v138_104 =>
              xE Tryd.prog (sCall 14 #[v33_8, v124_92, v126_94, v129_97]) (w40.drew) fun v130_105 w106 =>
              xStill Tryd.prog (sLoad 31 v136_102) v137_103 w106 <|
              xStill Tryd.prog (sLoad 3 v134_100) v135_101 w106 <|
              xStill Tryd.prog (sLoad 3 v132_98) v133_99 w106 <|
              xE Tryd.prog (sCall 29 #[v38_12, v133_99, v135_101, v138_104]) w106 fun v139_107 w108 =>
              xR Tryd.prog (sEq .eql 4 false v130_105 v139_107) w108 fun v140_109 =>
              J41 [v140_109] w108) (
              xR Tryd.prog (sEq .eql 3 true v70_43 (.int .i64 5)) w40 fun v142_110 =>
              xIf v142_110 (
                xE Tryd.prog (sCall 15 #[v33_8]) w40 fun _ w112 =>
                xE Tryd.prog (sCall 30 #[v38_12]) w112 fun _ w114 =>
                J41 [(.bool true)] w114) (
                xR Tryd.prog (sEq .eql 3 true v70_43 (.int .i64 6)) w40 fun v148_115 =>
                xIf v148_115 (
                  xE Tryd.prog (sCall 22 #[v33_8]) w40 fun _ w117 =>
                  xE Tryd.prog (sCall 31 #[v38_12]) w117 fun _ w119 =>
                  J41 [(.bool true)] w119) (
                  J41 [(.bool true)] w40))))))) fun vs120 _ w122 =>
    xP Tryd.prog (sNil v38_12) fun v154_123 =>
    xP Tryd.prog (sFA 63 v154_123 0) fun v155_124 =>
    xR Tryd.prog (sLoad 59 v155_124) w122 fun v156_125 =>
    xP Tryd.prog (sB .len #[59] #[v156_125]) fun v157_126 =>
    xLoop [(vs120.getD 0 undef), (.slice none 0 0), (.int .i64 0)] w122 fun J127 vs128 _ w130 =>
      xP Tryd.prog (sBin .lss 3 (vs128.getD 2 undef) v157_126) fun v159_131 =>
      xIf v159_131 (
        xJoin (fun J132 =>
        xJoin (fun J133 =>
          xP Tryd.prog (sNil v38_12) fun v163_134 =>
          xP Tryd.prog (sFA 63 v163_134 1) fun v164_135 =>
          xR Tryd.prog (sLoad 60 v164_135) w130 fun v165_136 =>
          xR Tryd.prog (sLookup 60 v165_136 (vs128.getD 2 undef) true) w130 fun v167_137 =>
          xP Tryd.prog (sExtract v167_137 0) fun _ =>
          xP Tryd.prog (sExtract v167_137 1) fun v169_139 =>
          xIf v169_139 (
            xE Tryd.prog (sBuildSlice 46 1 #[(0, (vs128.getD 2 undef))]) w130 fun v173_140 w141 =>
            xE Tryd.prog (sB .append #[46, 46] #[(vs128.getD 1 undef), v173_140]) w141 fun v174_142 w143 =>
            J133 [v174_142] w143) (
            J133 [(vs128.getD 1 undef)] w130)) fun vs144 _ w146 =>
        xE Tryd.prog (sCall 13 #[v33_8, (vs128.getD 2 undef)]) w146 fun v178_147 w148 =>
        xP Tryd.prog (sExtract v178_147 0) fun v179_149 =>
        xP Tryd.prog (sExtract v178_147 1) fun v180_150 =>
        xE Tryd.prog (sCall 32 #[v38_12, (vs128.getD 2 undef)]) w148 fun v184_151 w152 =>
        xP Tryd.prog (sExtract v184_151 0) fun v185_153 =>
        xP Tryd.prog (sExtract v184_151 1) fun v186_154 =>
        xIf (vs128.getD 0 undef) (
        xE Tryd.prog (sCall 16 #[v179_149, v185_153]) w152 fun v191_155 w156 =>
        xIf v191_155 (
        xE Tryd.prog (sCall 17 #[v180_150]) w156 fun v195_157 w158 =>
        xR Tryd.prog (sEq .eql 3 false v195_157 v186_154) w158 fun v197_159 =>
        J132 [v197_159, (vs144.getD 0 undef)] w158) (
        J132 [(.bool false), (vs144.getD 0 undef)] w156)) (
        J132 [(.bool false), (vs144.getD 0 undef)] w152)) fun vs160 _ w162 =>
      xP Tryd.prog (sBin .add 3 (vs128.getD 2 undef) (.int .i64 1)) fun v199_163 =>
      J127 [(vs160.getD 0 undef), (vs160.getD 1 undef), v199_163] w162) (
        xP Tryd.prog (sFA 44 v11_38 1) fun v202_164 =>
    xR Tryd.prog (sLoad 3 v202_164) w130 fun v203_165 =>
    xE Tryd.prog (sCall 13 #[v33_8, v203_165]) w130 fun v204_166 w167 =>
    xP Tryd.prog (sExtract v204_166 0) fun _ =>
    xP Tryd.prog (sExtract v204_166 1) fun v206_169 =>
    xP Tryd.prog (sFA 44 v11_38 1) fun v209_170 =>
    xR Tryd.prog (sLoad 3 v209_170) w167 fun v210_171 =>
    xE Tryd.prog (sCall 32 #[v38_12, v210_171]) w167 fun v211_172 w173 =>
    xP Tryd.prog (sExtract v211_172 0) fun _ =>
    xP Tryd.prog (sExtract v211_172 1) fun v213_175 =>
    xJoin (fun J176 =>
      xP Tryd.prog (sUn .not (vs128.getD 0 undef)) fun v215_177 =>
      xIf v215_177 (
      J176 [(.bool true)] (w173.drew)) (
      xE Tryd.prog (sCall 17 #[v206_169]) (w173.drew) fun v218_178 w179 =>
      xR Tryd.prog (sEq .neq 3 false v218_178 v213_175) w179 fun v220_180 =>
      xIf v220_180 (
      J176 [(.bool true)] w179) (
      xE Tryd.prog (sCall 20 #[v33_8]) w179 fun v224_181 w182 =>
      xE Tryd.prog (sCall 33 #[v224_181, (vs128.getD 1 undef)]) w182 fun v226_183 w184 =>
      xP Tryd.prog (sUn .not v226_183) fun v227_185 =>
      xIf v227_185 (
      J176 [(.bool true)] w184) (
      xP Tryd.prog (sNil v38_12) fun v233_186 =>
      xP Tryd.prog (sFA 63 v233_186 3) fun v234_187 =>
      xR Tryd.prog (sLoad 4 v234_187) w184 fun v235_188 =>
      xE Tryd.prog (sCall 21 #[v33_8]) w184 fun v231_189 w190 =>
      xStill Tryd.prog (sLoad 4 v234_187) v235_188 w190 <|
      xR Tryd.prog (sEq .neq 4 false v231_189 v235_188) w190 fun v236_191 =>
      xIf v236_191 (
      J176 [(.bool true)] w190) (
      xP Tryd.prog (sNil v38_12) fun v242_192 =>
      xP Tryd.prog (sFA 63 v242_192 0) fun v243_193 =>
      xR Tryd.prog (sLoad 59 v243_193) w190 fun v244_194 =>
      xP Tryd.prog (sB .len #[59] #[v244_194]) fun v245_195 =>
      xE Tryd.prog (sCall 34 #[v33_8]) w190 fun v240_196 w197 =>
      xStill Tryd.prog (sLoad 59 v243_193) v244_194 w197 <|
      xR Tryd.prog (sEq .neq 3 false v240_196 v245_195) w197 fun v246_198 =>
      J176 [v246_198] w197))))) fun vs199 _ w201 =>
    xIf (vs199.getD 0 undef) (
      R (.returned (.bool false)) w201) (
      xP Tryd.prog (sBin .add 3 (vs25.getD 0 undef) (.int .i64 1)) fun v64_202 =>
    J24 [v64_202] w201))) (
      xE Tryd.prog (sCall 3 #[]) w35 fun v248_203 w204 =>
  R (.returned v248_203) w204))
theorem C_stavelaw6_DiskPlays {a0 : Value} {a1 : Value} {w : World} {R : Ending → World → Prop} (h : S_stavelaw6_DiskPlays a0 a1 w R) : Calls Tryd.prog 8 #[a0, a1] w R :=
  funcVC_sound (an := A_stavelaw6_DiskPlays) (args := [a0, a1]) (k := 2) Tryd.func8 (by kernel_rfl) rfl
    (Eq.mp (show S_stavelaw6_DiskPlays a0 a1 w R = funcVC Tryd.prog Tryd.f8 A_stavelaw6_DiskPlays [a0, a1] w R by kernel_rfl) h)

/-- stave/disk.New -/
def A_disk_New : Ann := (.seq .nil (.seq (.join [10] .nil .nil) .nil))
def S_disk_New (a0 : Value) (w : World) (R : Ending → World → Prop) : Prop :=
  xJoin (fun J1 =>
    xP Tryd.prog (sBin .lss 3 a0 (.int .i64 1)) fun v6_2 =>
    xIf v6_2 (
    J1 [(.bool true)] w) (
    xP Tryd.prog (sBin .gtr 3 a0 (.int .i64 128)) fun v9_3 =>
    J1 [v9_3] w)) fun vs4 _ w6 =>
  xIf (vs4.getD 0 undef) (
    xP Tryd.prog (sIface 37 (.int .i64 1)) fun v12_7 =>
    xE Tryd.prog (sCall 35 #[(.string (ByteArray.mk #[100, 105, 115, 107, 46, 78, 101, 119])), a0, v12_7]) w6 fun v13_8 w9 =>
    R (.returned (.tuple #[(.pointer none), v13_8])) w9) (
    xE Tryd.prog (sMakeSlice 59 a0 a0) w6 fun v15_10 w11 =>
  xP Tryd.prog (sBuild 71 #[(0, v15_10)]) fun v16_12 =>
  xE Tryd.prog (sBox 71 v16_12) w11 fun v17_13 w14 =>
  xE Tryd.prog (sCall 36 #[v17_13]) w14 fun _ w16 =>
  R (.returned (.tuple #[v17_13, (.nilIface)])) w16)
theorem C_disk_New {a0 : Value} {w : World} {R : Ending → World → Prop} (h : S_disk_New a0 w R) : Calls Tryd.prog 9 #[a0] w R :=
  funcVC_sound (an := A_disk_New) (args := [a0]) (k := 1) Tryd.func9 (by kernel_rfl) rfl
    (Eq.mp (show S_disk_New a0 w R = funcVC Tryd.prog Tryd.f9 A_disk_New [a0] w R by kernel_rfl) h)

/-- (*stave/disk.Disk).Write -/
def A_disk_Disk_Write : Ann := (.seq .nil (.seq .nil (.seq (.draw (.pre [0, 1, 2, 3, 4, 5, 6, 7] .nil) [0, 1, 3, 7, 0, 0, 32, 127]) .nil)))
def S_disk_Disk_Write (a0 : Value) (a1 : Value) (a2 : Value) (w : World) (R : Ending → World → Prop) : Prop :=
  xP Tryd.prog (sB .len #[28] #[a2]) fun v11_1 =>
  xR Tryd.prog (sEq .neq 3 true v11_1 (.int .i64 128)) w fun v12_2 =>
  xE Tryd.prog (sCall 37 #[a0, (.string (ByteArray.mk #[100, 105, 115, 107, 46, 87, 114, 105, 116, 101])), a1, v12_2]) w fun v13_3 w4 =>
  xR Tryd.prog (sEq .neq 24 true v13_3 (.nilIface)) w4 fun v15_5 =>
  xIf v15_5 (
    R (.returned v13_3) w4) (
    xP Tryd.prog (sNil a0) fun v18_6 =>
  xP Tryd.prog (sFA 71 v18_6 1) fun v19_7 =>
  xR Tryd.prog (sLoad 60 v19_7) (w4.drew) fun v20_8 =>
  xE Tryd.prog (sCall 38 #[a2]) (w4.drew) fun v23_9 w10 =>
  xStill Tryd.prog (sLoad 60 v19_7) v20_8 w10 <|
  xE Tryd.prog (sMapUpdate 60 v20_8 a1 v23_9) w10 fun _ w11 =>
  R (.returned (.nilIface)) w11)
theorem C_disk_Disk_Write {a0 : Value} {a1 : Value} {a2 : Value} {w : World} {R : Ending → World → Prop} (h : S_disk_Disk_Write a0 a1 a2 w R) : Calls Tryd.prog 10 #[a0, a1, a2] w R :=
  funcVC_sound (an := A_disk_Disk_Write) (args := [a0, a1, a2]) (k := 3) Tryd.func10 (by kernel_rfl) rfl
    (Eq.mp (show S_disk_Disk_Write a0 a1 a2 w R = funcVC Tryd.prog Tryd.f10 A_disk_Disk_Write [a0, a1, a2] w R by kernel_rfl) h)

/-- stave/stavelaw6.sector -/
def A_stavelaw6_sector : Ann := (.seq .nil (.seq .nil (.seq (.seq .nil (.one (.loop [8] .nil))) .nil)))
def S_stavelaw6_sector (a0 : Value) (w : World) (R : Ending → World → Prop) : Prop :=
  xE Tryd.prog (sMakeSlice 28 (.int .i64 128) (.int .i64 128)) w fun v5_1 w2 =>
  xP Tryd.prog (sB .len #[28] #[v5_1]) fun v7_3 =>
  xLoop [(.int .i64 0)] w2 fun J4 vs5 _ w7 =>
    xP Tryd.prog (sBin .lss 3 (vs5.getD 0 undef) v7_3) fun v9_8 =>
    xIf v9_8 (
      xP Tryd.prog (sIA 28 v5_1 (vs5.getD 0 undef)) fun v14_9 =>
    xE Tryd.prog (sStore 5 v14_9 a0) w7 fun _ w10 =>
    xP Tryd.prog (sBin .add 3 (vs5.getD 0 undef) (.int .i64 1)) fun v15_11 =>
    J4 [v15_11] w10) (
      R (.returned v5_1) w7)
theorem C_stavelaw6_sector {a0 : Value} {w : World} {R : Ending → World → Prop} (h : S_stavelaw6_sector a0 w R) : Calls Tryd.prog 11 #[a0] w R :=
  funcVC_sound (an := A_stavelaw6_sector) (args := [a0]) (k := 1) Tryd.func11 (by kernel_rfl) rfl
    (Eq.mp (show S_stavelaw6_sector a0 w R = funcVC Tryd.prog Tryd.f11 A_stavelaw6_sector [a0] w R by kernel_rfl) h)

/-- (*stave/disk.Disk).Crash -/
def A_disk_Disk_Crash : Ann := (.seq (.seq .nil (.one (.loop [9] (.seq .nil (.seq .nil (.join [] .nil .nil)))))) .nil)
def S_disk_Disk_Crash (a0 : Value) (a1 : Value) (w : World) (R : Ending → World → Prop) : Prop :=
  xE Tryd.prog (sCall 20 #[a0]) w fun v7_1 w2 =>
  xP Tryd.prog (sB .len #[46] #[v7_1]) fun v8_3 =>
  xLoop [(.int .i64 0)] w2 fun J4 vs5 _ w7 =>
    xP Tryd.prog (sBin .lss 3 (vs5.getD 0 undef) v8_3) fun v10_8 =>
    xIf v10_8 (
      xJoin (fun J9 =>
      xP Tryd.prog (sIA 46 v7_1 (vs5.getD 0 undef)) fun v12_10 =>
      xR Tryd.prog (sLoad 3 v12_10) w7 fun v13_11 =>
      xP Tryd.prog (sBin .rem 3 (vs5.getD 0 undef) (.int .i64 64)) fun v16_12 =>
      xP Tryd.prog (sConv 3 74 v16_12) fun v17_13 =>
      xP Tryd.prog (sBin .shr 31 a1 v17_13) fun v18_14 =>
      xP Tryd.prog (sBin .and 31 v18_14 (.int .u64 1)) fun v19_15 =>
      xR Tryd.prog (sEq .eql 31 true v19_15 (.int .u64 1)) w7 fun v20_16 =>
      xIf v20_16 (
        xE Tryd.prog (sCall 39 #[a0, v13_11]) w7 fun _ w18 =>
        J9 [] w18) (
        J9 [] w7)) fun _ _ w21 =>
    xP Tryd.prog (sBin .add 3 (vs5.getD 0 undef) (.int .i64 1)) fun v24_22 =>
    J4 [v24_22] w21) (
      xE Tryd.prog (sMakeMap 60 none) w7 fun v26_23 w24 =>
  xP Tryd.prog (sNil a0) fun v27_25 =>
  xP Tryd.prog (sFA 71 v27_25 1) fun v28_26 =>
  xE Tryd.prog (sStore 60 v28_26 v26_23) w24 fun _ w27 =>
  R (.returned (.tuple #[])) w27)
theorem C_disk_Disk_Crash {a0 : Value} {a1 : Value} {w : World} {R : Ending → World → Prop} (h : S_disk_Disk_Crash a0 a1 w R) : Calls Tryd.prog 12 #[a0, a1] w R :=
  funcVC_sound (an := A_disk_Disk_Crash) (args := [a0, a1]) (k := 2) Tryd.func12 (by kernel_rfl) rfl
    (Eq.mp (show S_disk_Disk_Crash a0 a1 w R = funcVC Tryd.prog Tryd.f12 A_disk_Disk_Crash [a0, a1] w R by kernel_rfl) h)

/-- (*stave/disk.Disk).Read -/
def A_disk_Disk_Read : Ann := .nil
def S_disk_Disk_Read (a0 : Value) (a1 : Value) (w : World) (R : Ending → World → Prop) : Prop :=
  xE Tryd.prog (sCall 37 #[a0, (.string (ByteArray.mk #[100, 105, 115, 107, 46, 82, 101, 97, 100])), a1, (.bool false)]) w fun v11_1 w2 =>
  xR Tryd.prog (sEq .neq 24 true v11_1 (.nilIface)) w2 fun v13_3 =>
  xIf v13_3 (
    R (.returned (.tuple #[(.slice none 0 0), v11_1])) w2) (
    xP Tryd.prog (sNil a0) fun v17_4 =>
  xP Tryd.prog (sFA 71 v17_4 1) fun v18_5 =>
  xR Tryd.prog (sLoad 60 v18_5) w2 fun v19_6 =>
  xR Tryd.prog (sLookup 60 v19_6 a1 true) w2 fun v21_7 =>
  xP Tryd.prog (sExtract v21_7 0) fun v22_8 =>
  xP Tryd.prog (sExtract v21_7 1) fun v23_9 =>
  xIf v23_9 (
    xE Tryd.prog (sCall 38 #[v22_8]) w2 fun v26_10 w11 =>
    R (.returned (.tuple #[v26_10, (.nilIface)])) w11) (
    xP Tryd.prog (sNil a0) fun v28_12 =>
  xP Tryd.prog (sFA 71 v28_12 0) fun v29_13 =>
  xR Tryd.prog (sLoad 59 v29_13) w2 fun v30_14 =>
  xP Tryd.prog (sIA 59 v30_14 a1) fun v32_15 =>
  xR Tryd.prog (sLoad 28 v32_15) w2 fun v33_16 =>
  xE Tryd.prog (sCall 38 #[v33_16]) w2 fun v34_17 w18 =>
  R (.returned (.tuple #[v34_17, (.nilIface)])) w18))
theorem C_disk_Disk_Read {a0 : Value} {a1 : Value} {w : World} {R : Ending → World → Prop} (h : S_disk_Disk_Read a0 a1 w R) : Calls Tryd.prog 13 #[a0, a1] w R :=
  funcVC_sound (an := A_disk_Disk_Read) (args := [a0, a1]) (k := 2) Tryd.func13 (by kernel_rfl) rfl
    (Eq.mp (show S_disk_Disk_Read a0 a1 w R = funcVC Tryd.prog Tryd.f13 A_disk_Disk_Read [a0, a1] w R by kernel_rfl) h)

/-- (*stave/disk.Disk).Rot -/
def A_disk_Disk_Rot : Ann := (.seq .nil (.seq (.join [31] .nil .nil) (.seq (.seq .nil (.one (.loop [32] .nil))) .nil)))
def S_disk_Disk_Rot (a0 : Value) (a1 : Value) (a2 : Value) (a3 : Value) (w : World) (R : Ending → World → Prop) : Prop :=
  xJoin (fun J1 =>
    xP Tryd.prog (sBin .lss 3 a2 (.int .i64 0)) fun v13_2 =>
    xIf v13_2 (
    xE Tryd.prog (sCall 37 #[a0, (.string (ByteArray.mk #[100, 105, 115, 107, 46, 82, 111, 116])), a1, (.bool true)]) w fun v22_3 w4 =>
    xR Tryd.prog (sEq .neq 24 true v22_3 (.nilIface)) w4 fun v23_5 =>
    xIf v23_5 (
    J1 [(.bool true)] w4) (
    xP Tryd.prog (sNil a0) fun v26_6 =>
    xP Tryd.prog (sFA 71 v26_6 2) fun v27_7 =>
    xR Tryd.prog (sLoad 61 v27_7) w4 fun v28_8 =>
    xR Tryd.prog (sLookup 61 v28_8 a1 false) w4 fun v30_9 =>
    J1 [v30_9] w4)) (
    xP Tryd.prog (sBin .gtr 3 a2 (.int .i64 124)) fun v16_10 =>
    xIf v16_10 (
    xE Tryd.prog (sCall 37 #[a0, (.string (ByteArray.mk #[100, 105, 115, 107, 46, 82, 111, 116])), a1, (.bool true)]) w fun v22_11 w12 =>
    xR Tryd.prog (sEq .neq 24 true v22_11 (.nilIface)) w12 fun v23_13 =>
    xIf v23_13 (
    J1 [(.bool true)] w12) (
    xP Tryd.prog (sNil a0) fun v26_14 =>
    xP Tryd.prog (sFA 71 v26_14 2) fun v27_15 =>
    xR Tryd.prog (sLoad 61 v27_15) w12 fun v28_16 =>
    xR Tryd.prog (sLookup 61 v28_16 a1 false) w12 fun v30_17 =>
    J1 [v30_17] w12)) (
    xR Tryd.prog (sEq .eql 35 true a3 (.int .u32 0)) w fun v20_18 =>
    xE Tryd.prog (sCall 37 #[a0, (.string (ByteArray.mk #[100, 105, 115, 107, 46, 82, 111, 116])), a1, v20_18]) w fun v22_19 w20 =>
    xR Tryd.prog (sEq .neq 24 true v22_19 (.nilIface)) w20 fun v23_21 =>
    xIf v23_21 (
    J1 [(.bool true)] w20) (
    xP Tryd.prog (sNil a0) fun v26_22 =>
    xP Tryd.prog (sFA 71 v26_22 2) fun v27_23 =>
    xR Tryd.prog (sLoad 61 v27_23) w20 fun v28_24 =>
    xR Tryd.prog (sLookup 61 v28_24 a1 false) w20 fun v30_25 =>
    J1 [v30_25] w20)))) fun vs26 _ w28 =>
  xIf (vs26.getD 0 undef) (
    R (.returned (.bool false)) w28) (
    xLoop [(.int .i64 0)] w28 fun J29 vs30 _ w32 =>
    xP Tryd.prog (sBin .lss 3 (vs30.getD 0 undef) (.int .i64 4)) fun v33_33 =>
    xIf v33_33 (
      xP Tryd.prog (sNil a0) fun v36_34 =>
    xP Tryd.prog (sFA 71 v36_34 0) fun v37_35 =>
    xR Tryd.prog (sLoad 59 v37_35) w32 fun v38_36 =>
    xP Tryd.prog (sIA 59 v38_36 a1) fun v40_37 =>
    xR Tryd.prog (sLoad 28 v40_37) w32 fun v41_38 =>
    xP Tryd.prog (sBin .add 3 a2 (vs30.getD 0 undef)) fun v44_39 =>
    xP Tryd.prog (sIA 28 v41_38 v44_39) fun v45_40 =>
    xR Tryd.prog (sLoad 5 v45_40) w32 fun v46_41 =>
    xP Tryd.prog (sBin .mul 3 (.int .i64 8) (vs30.getD 0 undef)) fun v49_42 =>
    xP Tryd.prog (sConv 3 74 v49_42) fun v50_43 =>
    xP Tryd.prog (sBin .shr 35 a3 v50_43) fun v51_44 =>
    xP Tryd.prog (sConv 35 5 v51_44) fun v52_45 =>
    xP Tryd.prog (sBin .xor 5 v46_41 v52_45) fun v53_46 =>
    xP Tryd.prog (sIA 28 v41_38 v44_39) fun v54_47 =>
    xE Tryd.prog (sStore 5 v54_47 v53_46) w32 fun _ w48 =>
    xP Tryd.prog (sBin .add 3 (vs30.getD 0 undef) (.int .i64 1)) fun v55_49 =>
    J29 [v55_49] w48) (
      xP Tryd.prog (sNil a0) fun v57_50 =>
  xP Tryd.prog (sFA 71 v57_50 2) fun v58_51 =>
  xR Tryd.prog (sLoad 61 v58_51) w32 fun v59_52 =>
  xE Tryd.prog (sMapUpdate 61 v59_52 a1 (.bool true)) w32 fun _ w53 =>
  R (.returned (.bool true)) w53))
theorem C_disk_Disk_Rot {a0 : Value} {a1 : Value} {a2 : Value} {a3 : Value} {w : World} {R : Ending → World → Prop} (h : S_disk_Disk_Rot a0 a1 a2 a3 w R) : Calls Tryd.prog 14 #[a0, a1, a2, a3] w R :=
  funcVC_sound (an := A_disk_Disk_Rot) (args := [a0, a1, a2, a3]) (k := 4) Tryd.func14 (by kernel_rfl) rfl
    (Eq.mp (show S_disk_Disk_Rot a0 a1 a2 a3 w R = funcVC Tryd.prog Tryd.f14 A_disk_Disk_Rot [a0, a1, a2, a3] w R by kernel_rfl) h)

/-- (*stave/disk.Disk).Die -/
def A_disk_Disk_Die : Ann := .nil
def S_disk_Disk_Die (a0 : Value) (w : World) (R : Ending → World → Prop) : Prop :=
  xE Tryd.prog (sCall 36 #[a0]) w fun _ w2 =>
  xP Tryd.prog (sNil a0) fun v5_3 =>
  xP Tryd.prog (sFA 71 v5_3 3) fun v6_4 =>
  xE Tryd.prog (sStore 4 v6_4 (.bool true)) w2 fun _ w5 =>
  R (.returned (.tuple #[])) w5
theorem C_disk_Disk_Die {a0 : Value} {w : World} {R : Ending → World → Prop} (h : S_disk_Disk_Die a0 w R) : Calls Tryd.prog 15 #[a0] w R :=
  funcVC_sound (an := A_disk_Disk_Die) (args := [a0]) (k := 1) Tryd.func15 (by kernel_rfl) rfl
    (Eq.mp (show S_disk_Disk_Die a0 w R = funcVC Tryd.prog Tryd.f15 A_disk_Disk_Die [a0] w R by kernel_rfl) h)

/-- stave/stavebook.Same[byte] -/
def A_stavebook_Same_byte : Ann := (.seq .nil (.seq .nil (.seq (.seq .nil (.one (.loop [5] (.seq .nil (.seq (.one (.seq (.draw (.pre [0, 1, 2, 3, 4, 5, 6, 7, 8] .nil) [0, 0, 3, 7, 0, 0, 48, 112, 255]) .nil)) .nil))))) .nil)))
def S_stavebook_Same_byte (a0 : Value) (a1 : Value) (w : World) (R : Ending → World → Prop) : Prop :=
  xP Tryd.prog (sB .len #[28] #[a0]) fun v7_1 =>
  xP Tryd.prog (sB .len #[28] #[a1]) fun v9_2 =>
  xR Tryd.prog (sEq .neq 3 false v7_1 v9_2) w fun v10_3 =>
  xIf v10_3 (
    R (.returned (.bool false)) w) (
    xLoop [(.int .i64 0)] w fun J4 vs5 _ w7 =>
    xP Tryd.prog (sB .len #[28] #[a0]) fun v13_8 =>
    xP Tryd.prog (sBin .lss 3 (vs5.getD 0 undef) v13_8) fun v14_9 =>
    xIf v14_9 (
      xP Tryd.prog (sIA 28 a0 (vs5.getD 0 undef)) fun v19_10 =>
    xR Tryd.prog (sLoad 5 v19_10) (w7.drew) fun v20_11 =>
    xP Tryd.prog (sIA 28 a1 (vs5.getD 0 undef)) fun v23_12 =>
    xR Tryd.prog (sLoad 5 v23_12) (w7.drew) fun v24_13 =>
    xR Tryd.prog (sEq .neq 5 false v20_11 v24_13) (w7.drew) fun v25_14 =>
    xIf v25_14 (
      R (.returned (.bool false)) (w7.drew)) (
      xP Tryd.prog (sBin .add 3 (vs5.getD 0 undef) (.int .i64 1)) fun v16_15 =>
    J4 [v16_15] (w7.drew))) (
      R (.returned (.bool true)) w7))
theorem C_stavebook_Same_byte {a0 : Value} {a1 : Value} {w : World} {R : Ending → World → Prop} (h : S_stavebook_Same_byte a0 a1 w R) : Calls Tryd.prog 16 #[a0, a1] w R :=
  funcVC_sound (an := A_stavebook_Same_byte) (args := [a0, a1]) (k := 2) Tryd.func16 (by kernel_rfl) rfl
    (Eq.mp (show S_stavebook_Same_byte a0 a1 w R = funcVC Tryd.prog Tryd.f16 A_stavebook_Same_byte [a0, a1] w R by kernel_rfl) h)

/-- stave/fault.Kind -/
def A_fault_Kind : Ann := .nil
def S_fault_Kind (a0 : Value) (w : World) (R : Ending → World → Prop) : Prop :=
  xE Tryd.prog (sAlloc 37) w fun v3_1 w2 =>
  xP Tryd.prog (sIface 77 v3_1) fun v6_3 =>
  xE Tryd.prog (sCall 40 #[a0, v6_3]) w2 fun v7_4 w5 =>
  xIf v7_4 (
    xR Tryd.prog (sLoad 37 v3_1) w5 fun v8_6 =>
    R (.returned v8_6) w5) (
    xP Tryd.prog (sIface 37 (.int .i64 6)) fun v11_7 =>
    xE Tryd.prog (sCall 41 #[a0, v11_7]) w5 fun v12_8 w9 =>
    xIf v12_8 (
      R (.returned (.int .i64 6)) w9) (
      R (.returned (.int .i64 0)) w9))
theorem C_fault_Kind {a0 : Value} {w : World} {R : Ending → World → Prop} (h : S_fault_Kind a0 w R) : Calls Tryd.prog 17 #[a0] w R :=
  funcVC_sound (an := A_fault_Kind) (args := [a0]) (k := 1) Tryd.func17 (by kernel_rfl) rfl
    (Eq.mp (show S_fault_Kind a0 w R = funcVC Tryd.prog Tryd.f17 A_fault_Kind [a0] w R by kernel_rfl) h)

/-- stave/stavebook.Within -/
def A_stavebook_Within : Ann := (.seq .nil (.seq .nil (.join [0] .nil .nil)))
def S_stavebook_Within (a0 : Value) (a1 : Value) (a2 : Value) (w : World) (R : Ending → World → Prop) : Prop :=
  xP Tryd.prog (sBin .sub 3 a2 a1) fun v10_1 =>
  xP Tryd.prog (sBin .add 3 v10_1 (.int .i64 1)) fun v11_2 =>
  xP Tryd.prog (sBin .rem 3 a0 v11_2) fun v12_3 =>
  xJoin (fun J4 =>
    xP Tryd.prog (sBin .lss 3 v12_3 (.int .i64 0)) fun v14_5 =>
    xIf v14_5 (
      xP Tryd.prog (sBin .add 3 v12_3 a2) fun v17_6 =>
      xP Tryd.prog (sBin .sub 3 v17_6 a1) fun v19_7 =>
      xP Tryd.prog (sBin .add 3 v19_7 (.int .i64 1)) fun v20_8 =>
      J4 [v20_8] w) (
      J4 [v12_3] w)) fun vs9 _ w11 =>
  xP Tryd.prog (sBin .add 3 a1 (vs9.getD 0 undef)) fun v23_12 =>
  R (.returned v23_12) w11
theorem C_stavebook_Within {a0 : Value} {a1 : Value} {a2 : Value} {w : World} {R : Ending → World → Prop} (h : S_stavebook_Within a0 a1 a2 w R) : Calls Tryd.prog 18 #[a0, a1, a2] w R :=
  funcVC_sound (an := A_stavebook_Within) (args := [a0, a1, a2]) (k := 3) Tryd.func18 (by kernel_rfl) rfl
    (Eq.mp (show S_stavebook_Within a0 a1 a2 w R = funcVC Tryd.prog Tryd.f18 A_stavebook_Within [a0, a1, a2] w R by kernel_rfl) h)

/-- (*stave/disk.Disk).Flush -/
def A_disk_Disk_Flush : Ann := (.seq .nil (.seq .nil (.seq (.seq .nil (.one (.loop [] .nil))) .nil)))
def S_disk_Disk_Flush (a0 : Value) (w : World) (R : Ending → World → Prop) : Prop :=
  xE Tryd.prog (sCall 37 #[a0, (.string (ByteArray.mk #[100, 105, 115, 107, 46, 70, 108, 117, 115, 104])), (.int .i64 0), (.bool false)]) w fun v6_1 w2 =>
  xR Tryd.prog (sEq .neq 24 true v6_1 (.nilIface)) w2 fun v8_3 =>
  xIf v8_3 (
    R (.returned v6_1) w2) (
    xP Tryd.prog (sNil a0) fun v11_4 =>
  xP Tryd.prog (sFA 71 v11_4 1) fun v12_5 =>
  xR Tryd.prog (sLoad 60 v12_5) w2 fun v13_6 =>
  xE Tryd.prog (sRange 60 v13_6) w2 fun v14_7 w8 =>
  xLoop [] w8 fun J9 _ _ w12 =>
    xE Tryd.prog (sNext v14_7 false 0) w12 fun v15_13 w14 =>
    xP Tryd.prog (sExtract v15_13 0) fun v16_15 =>
    xIf v16_15 (
      xR Tryd.prog (sEntry v14_7) w14 fun v17_16 =>
    xP Tryd.prog (sExtract v17_16 0) fun v18_17 =>
    xE Tryd.prog (sCall 39 #[a0, v18_17]) w14 fun _ w19 =>
    J9 [] w19) (
      xE Tryd.prog (sMakeMap 60 none) w14 fun v23_20 w21 =>
  xP Tryd.prog (sNil a0) fun v24_22 =>
  xP Tryd.prog (sFA 71 v24_22 1) fun v25_23 =>
  xE Tryd.prog (sStore 60 v25_23 v23_20) w21 fun _ w24 =>
  R (.returned (.nilIface)) w24))
theorem C_disk_Disk_Flush {a0 : Value} {w : World} {R : Ending → World → Prop} (h : S_disk_Disk_Flush a0 w R) : Calls Tryd.prog 19 #[a0] w R :=
  funcVC_sound (an := A_disk_Disk_Flush) (args := [a0]) (k := 1) Tryd.func19 (by kernel_rfl) rfl
    (Eq.mp (show S_disk_Disk_Flush a0 w R = funcVC Tryd.prog Tryd.f19 A_disk_Disk_Flush [a0] w R by kernel_rfl) h)

/-- (*stave/disk.Disk).Waits -/
def A_disk_Disk_Waits : Ann := (.seq .nil (.seq .nil (.seq (.seq .nil (.one (.loop [3, 12] (.seq .nil (.seq .nil (.join [3] .nil .nil)))))) .nil)))
def S_disk_Disk_Waits (a0 : Value) (w : World) (R : Ending → World → Prop) : Prop :=
  xP Tryd.prog (sNil a0) fun v8_1 =>
  xP Tryd.prog (sFA 71 v8_1 0) fun v9_2 =>
  xR Tryd.prog (sLoad 59 v9_2) w fun v10_3 =>
  xP Tryd.prog (sB .len #[59] #[v10_3]) fun v11_4 =>
  xLoop [(.slice none 0 0), (.int .i64 0)] w fun J5 vs6 _ w8 =>
    xP Tryd.prog (sBin .lss 3 (vs6.getD 1 undef) v11_4) fun v13_9 =>
    xIf v13_9 (
      xJoin (fun J10 =>
      xP Tryd.prog (sNil a0) fun v17_11 =>
      xP Tryd.prog (sFA 71 v17_11 1) fun v18_12 =>
      xR Tryd.prog (sLoad 60 v18_12) w8 fun v19_13 =>
      xR Tryd.prog (sLookup 60 v19_13 (vs6.getD 1 undef) true) w8 fun v21_14 =>
      xP Tryd.prog (sExtract v21_14 0) fun _ =>
      xP Tryd.prog (sExtract v21_14 1) fun v23_16 =>
      xIf v23_16 (
        xE Tryd.prog (sBuildSlice 46 1 #[(0, (vs6.getD 1 undef))]) w8 fun v27_17 w18 =>
        xE Tryd.prog (sB .append #[46, 46] #[(vs6.getD 0 undef), v27_17]) w18 fun v28_19 w20 =>
        J10 [v28_19] w20) (
        J10 [(vs6.getD 0 undef)] w8)) fun vs21 _ w23 =>
    xP Tryd.prog (sBin .add 3 (vs6.getD 1 undef) (.int .i64 1)) fun v29_24 =>
    J5 [(vs21.getD 0 undef), v29_24] w23) (
      R (.returned (vs6.getD 0 undef)) w8)
theorem C_disk_Disk_Waits {a0 : Value} {w : World} {R : Ending → World → Prop} (h : S_disk_Disk_Waits a0 w R) : Calls Tryd.prog 20 #[a0] w R :=
  funcVC_sound (an := A_disk_Disk_Waits) (args := [a0]) (k := 1) Tryd.func20 (by kernel_rfl) rfl
    (Eq.mp (show S_disk_Disk_Waits a0 w R = funcVC Tryd.prog Tryd.f20 A_disk_Disk_Waits [a0] w R by kernel_rfl) h)

/-- (*stave/disk.Disk).Dead -/
def A_disk_Disk_Dead : Ann := .nil
def S_disk_Disk_Dead (a0 : Value) (w : World) (R : Ending → World → Prop) : Prop :=
  xP Tryd.prog (sNil a0) fun v4_1 =>
  xP Tryd.prog (sFA 71 v4_1 3) fun v5_2 =>
  xR Tryd.prog (sLoad 4 v5_2) w fun v6_3 =>
  R (.returned v6_3) w
theorem C_disk_Disk_Dead {a0 : Value} {w : World} {R : Ending → World → Prop} (h : S_disk_Disk_Dead a0 w R) : Calls Tryd.prog 21 #[a0] w R :=
  funcVC_sound (an := A_disk_Disk_Dead) (args := [a0]) (k := 1) Tryd.func21 (by kernel_rfl) rfl
    (Eq.mp (show S_disk_Disk_Dead a0 w R = funcVC Tryd.prog Tryd.f21 A_disk_Disk_Dead [a0] w R by kernel_rfl) h)

/-- (*stave/disk.Disk).Replace -/
def A_disk_Disk_Replace : Ann := .nil
def S_disk_Disk_Replace (a0 : Value) (w : World) (R : Ending → World → Prop) : Prop :=
  xE Tryd.prog (sCall 36 #[a0]) w fun _ w2 =>
  xP Tryd.prog (sNil a0) fun v5_3 =>
  xP Tryd.prog (sFA 71 v5_3 3) fun v6_4 =>
  xE Tryd.prog (sStore 4 v6_4 (.bool false)) w2 fun _ w5 =>
  R (.returned (.tuple #[])) w5
theorem C_disk_Disk_Replace {a0 : Value} {w : World} {R : Ending → World → Prop} (h : S_disk_Disk_Replace a0 w R) : Calls Tryd.prog 22 #[a0] w R :=
  funcVC_sound (an := A_disk_Disk_Replace) (args := [a0]) (k := 1) Tryd.func22 (by kernel_rfl) rfl
    (Eq.mp (show S_disk_Disk_Replace a0 w R = funcVC Tryd.prog Tryd.f22 A_disk_Disk_Replace [a0] w R by kernel_rfl) h)

/-- stave/staveref1.NewDisk -/
def A_staveref1_NewDisk : Ann := (.seq .nil (.seq (.join [11] .nil .nil) (.seq .nil (.seq (.seq .nil (.one (.loop [5] (.seq .nil (.seq (.one (.draw (.pre [0, 1, 2, 3, 4, 5, 6, 7, 8, 9, 10] .nil) [0, 0, 2, 6, 14, 0, 32, 126, 255, 511, 1023])) .nil))))) .nil))))
def S_staveref1_NewDisk (a0 : Value) (w : World) (R : Ending → World → Prop) : Prop :=
  xJoin (fun J1 =>
    xP Tryd.prog (sBin .lss 3 a0 (.int .i64 1)) fun v7_2 =>
    xIf v7_2 (
    J1 [(.bool true)] w) (
    xP Tryd.prog (sBin .gtr 3 a0 (.int .i64 128)) fun v10_3 =>
    J1 [v10_3] w)) fun vs4 _ w6 =>
  xIf (vs4.getD 0 undef) (
    R (.returned (.tuple #[(.pointer none), (.int .i64 1)])) w6) (
    xE Tryd.prog (sMakeMap 60 none) w6 fun v12_7 w8 =>
  xE Tryd.prog (sMakeMap 61 none) w8 fun v13_9 w10 =>
  xP Tryd.prog (sBuild 63 #[(1, v12_7), (2, v13_9)]) fun v14_11 =>
  xE Tryd.prog (sBox 63 v14_11) w10 fun v15_12 w13 =>
  xLoop [(.int .i64 0)] w13 fun J14 vs15 _ w17 =>
    xP Tryd.prog (sBin .lss 3 (vs15.getD 0 undef) a0) fun v18_18 =>
    xIf v18_18 (
      xP Tryd.prog (sNil v15_12) fun v23_19 =>
    xP Tryd.prog (sFA 63 v23_19 0) fun v24_20 =>
    xR Tryd.prog (sLoad 59 v24_20) (w17.drew) fun v25_21 =>
    xE Tryd.prog (sMakeSlice 28 (.int .i64 128) (.int .i64 128)) (w17.drew) fun v26_22 w23 =>
    xStill Tryd.prog (sLoad 59 v24_20) v25_21 w23 <|
    xE Tryd.prog (sBuildSlice 59 1 #[(0, v26_22)]) w23 fun v27_24 w25 =>
    xStill Tryd.prog (sLoad 59 v24_20) v25_21 w25 <|
    xE Tryd.prog (sB .append #[59, 59] #[v25_21, v27_24]) w25 fun v28_26 w27 =>
    xP Tryd.prog (sNil v15_12) fun v29_28 =>
    xP Tryd.prog (sFA 63 v29_28 0) fun v30_29 =>
    xE Tryd.prog (sStore 59 v30_29 v28_26) w27 fun _ w30 =>
    xP Tryd.prog (sBin .add 3 (vs15.getD 0 undef) (.int .i64 1)) fun v20_31 =>
    J14 [v20_31] w30) (
      R (.returned (.tuple #[v15_12, (.int .i64 0)])) w17))
theorem C_staveref1_NewDisk {a0 : Value} {w : World} {R : Ending → World → Prop} (h : S_staveref1_NewDisk a0 w R) : Calls Tryd.prog 23 #[a0] w R :=
  funcVC_sound (an := A_staveref1_NewDisk) (args := [a0]) (k := 1) Tryd.func23 (by kernel_rfl) rfl
    (Eq.mp (show S_staveref1_NewDisk a0 w R = funcVC Tryd.prog Tryd.f23 A_staveref1_NewDisk [a0] w R by kernel_rfl) h)

/-- stave/stavebook.Roomy[byte] -/
def A_stavebook_Roomy_byte : Ann := (.seq .nil (.seq .nil (.seq .nil (.seq (.seq .nil (.one (.loop [6] .nil))) .nil))))
def S_stavebook_Roomy_byte (a0 : Value) (a1 : Value) (w : World) (R : Ending → World → Prop) : Prop :=
  xP Tryd.prog (sB .len #[28] #[a0]) fun v8_1 =>
  xP Tryd.prog (sBin .add 3 v8_1 (.int .i64 80)) fun v9_2 =>
  xE Tryd.prog (sMakeSlice 28 v9_2 v9_2) w fun v10_3 w4 =>
  xE Tryd.prog (sB .copy #[28, 28] #[v10_3, a0]) w4 fun _ w6 =>
  xP Tryd.prog (sB .len #[28] #[a0]) fun v15_7 =>
  xLoop [v15_7] w6 fun J8 vs9 _ w11 =>
    xP Tryd.prog (sB .len #[28] #[v10_3]) fun v18_12 =>
    xP Tryd.prog (sBin .lss 3 (vs9.getD 0 undef) v18_12) fun v19_13 =>
    xIf v19_13 (
      xP Tryd.prog (sIA 28 v10_3 (vs9.getD 0 undef)) fun v25_14 =>
    xE Tryd.prog (sStore 5 v25_14 a1) w11 fun _ w15 =>
    xP Tryd.prog (sBin .add 3 (vs9.getD 0 undef) (.int .i64 1)) fun v21_16 =>
    J8 [v21_16] w15) (
      R (.returned v10_3) w11)
theorem C_stavebook_Roomy_byte {a0 : Value} {a1 : Value} {w : World} {R : Ending → World → Prop} (h : S_stavebook_Roomy_byte a0 a1 w R) : Calls Tryd.prog 24 #[a0, a1] w R :=
  funcVC_sound (an := A_stavebook_Roomy_byte) (args := [a0, a1]) (k := 2) Tryd.func24 (by kernel_rfl) rfl
    (Eq.mp (show S_stavebook_Roomy_byte a0 a1 w R = funcVC Tryd.prog Tryd.f24 A_stavebook_Roomy_byte [a0, a1] w R by kernel_rfl) h)

/-- (*stave/staveref1.Disk).Write -/
def A_staveref1_Disk_Write : Ann := (.seq .nil (.seq .nil (.seq (.join [19] .nil .nil) (.seq (.draw (.pre [0, 1, 2, 3, 4, 6, 5, 7, 8] .nil) [0, 1, 3, 7, 0, 0, 0, 96, 255]) .nil))))
def S_staveref1_Disk_Write (a0 : Value) (a1 : Value) (a2 : Value) (w : World) (R : Ending → World → Prop) : Prop :=
  xP Tryd.prog (sNil a0) fun v8_1 =>
  xP Tryd.prog (sFA 63 v8_1 3) fun v9_2 =>
  xR Tryd.prog (sLoad 4 v9_2) w fun v10_3 =>
  xIf v10_3 (
    R (.returned (.int .i64 5)) w) (
    xJoin (fun J4 =>
    xE Tryd.prog (sCall 42 #[a0, a1]) w fun v13_5 w6 =>
    xP Tryd.prog (sUn .not v13_5) fun v14_7 =>
    xIf v14_7 (
    J4 [(.bool true)] w6) (
    xP Tryd.prog (sB .len #[28] #[a2]) fun v17_8 =>
    xR Tryd.prog (sEq .neq 3 true v17_8 (.int .i64 128)) w6 fun v18_9 =>
    J4 [v18_9] w6)) fun vs10 _ w12 =>
  xIf (vs10.getD 0 undef) (
    R (.returned (.int .i64 1)) w12) (
    xP Tryd.prog (sNil a0) fun v21_13 =>
  xP Tryd.prog (sFA 63 v21_13 1) fun v22_14 =>
  xR Tryd.prog (sLoad 60 v22_14) (w12.drew) fun v23_15 =>
  xE Tryd.prog (sBuildSlice 28 0 #[]) (w12.drew) fun v25_16 w17 =>
  xStill Tryd.prog (sLoad 60 v22_14) v23_15 w17 <|
  xE Tryd.prog (sB .append #[28, 28] #[v25_16, a2]) w17 fun v27_18 w19 =>
  xStill Tryd.prog (sLoad 60 v22_14) v23_15 w19 <|
  xE Tryd.prog (sMapUpdate 60 v23_15 a1 v27_18) w19 fun _ w20 =>
  R (.returned (.int .i64 0)) w20))
theorem C_staveref1_Disk_Write {a0 : Value} {a1 : Value} {a2 : Value} {w : World} {R : Ending → World → Prop} (h : S_staveref1_Disk_Write a0 a1 a2 w R) : Calls Tryd.prog 25 #[a0, a1, a2] w R :=
  funcVC_sound (an := A_staveref1_Disk_Write) (args := [a0, a1, a2]) (k := 3) Tryd.func25 (by kernel_rfl) rfl
    (Eq.mp (show S_staveref1_Disk_Write a0 a1 a2 w R = funcVC Tryd.prog Tryd.f25 A_staveref1_Disk_Write [a0, a1, a2] w R by kernel_rfl) h)

/-- stave/stavebook.Intact[byte] -/
def A_stavebook_Intact_byte : Ann := (.seq .nil (.seq (.join [22] .nil .nil) (.seq (.seq .nil (.one (.loop [7] .nil))) .nil)))
def S_stavebook_Intact_byte (a0 : Value) (a1 : Value) (a2 : Value) (w : World) (R : Ending → World → Prop) : Prop :=
  xJoin (fun J1 =>
    xP Tryd.prog (sB .len #[28] #[a0]) fun v9_2 =>
    xP Tryd.prog (sB .len #[28] #[a1]) fun v11_3 =>
    xP Tryd.prog (sBin .add 3 v11_3 (.int .i64 80)) fun v12_4 =>
    xR Tryd.prog (sEq .neq 3 false v9_2 v12_4) w fun v13_5 =>
    xIf v13_5 (
    J1 [(.bool true)] w) (
    xP Tryd.prog (sB .len #[28] #[a1]) fun v17_6 =>
    xP Tryd.prog (sSlice 28 a0 none (some v17_6) none) fun v18_7 =>
    xE Tryd.prog (sCall 16 #[v18_7, a1]) w fun v20_8 w9 =>
    xP Tryd.prog (sUn .not v20_8) fun v21_10 =>
    J1 [v21_10] w9)) fun vs11 _ w13 =>
  xIf (vs11.getD 0 undef) (
    R (.returned (.bool false)) w13) (
    xP Tryd.prog (sB .len #[28] #[a1]) fun v24_14 =>
  xLoop [v24_14] w13 fun J15 vs16 _ w18 =>
    xP Tryd.prog (sB .len #[28] #[a0]) fun v27_19 =>
    xP Tryd.prog (sBin .lss 3 (vs16.getD 0 undef) v27_19) fun v28_20 =>
    xIf v28_20 (
      xP Tryd.prog (sIA 28 a0 (vs16.getD 0 undef)) fun v33_21 =>
    xR Tryd.prog (sLoad 5 v33_21) w18 fun v34_22 =>
    xR Tryd.prog (sEq .neq 5 false v34_22 a2) w18 fun v36_23 =>
    xIf v36_23 (
      R (.returned (.bool false)) w18) (
      xP Tryd.prog (sBin .add 3 (vs16.getD 0 undef) (.int .i64 1)) fun v30_24 =>
    J15 [v30_24] w18)) (
      R (.returned (.bool true)) w18))
theorem C_stavebook_Intact_byte {a0 : Value} {a1 : Value} {a2 : Value} {w : World} {R : Ending → World → Prop} (h : S_stavebook_Intact_byte a0 a1 a2 w R) : Calls Tryd.prog 26 #[a0, a1, a2] w R :=
  funcVC_sound (an := A_stavebook_Intact_byte) (args := [a0, a1, a2]) (k := 3) Tryd.func26 (by kernel_rfl) rfl
    (Eq.mp (show S_stavebook_Intact_byte a0 a1 a2 w R = funcVC Tryd.prog Tryd.f26 A_stavebook_Intact_byte [a0, a1, a2] w R by kernel_rfl) h)

/-- (*stave/staveref1.Disk).Flush -/
def A_staveref1_Disk_Flush : Ann := (.seq .nil (.seq .nil (.seq (.seq .nil (.one (.loop [13] .nil))) .nil)))
def S_staveref1_Disk_Flush (a0 : Value) (w : World) (R : Ending → World → Prop) : Prop :=
  xP Tryd.prog (sNil a0) fun v5_1 =>
  xP Tryd.prog (sFA 63 v5_1 3) fun v6_2 =>
  xR Tryd.prog (sLoad 4 v6_2) w fun v7_3 =>
  xIf v7_3 (
    R (.returned (.int .i64 5)) w) (
    xP Tryd.prog (sNil a0) fun v9_4 =>
  xP Tryd.prog (sFA 63 v9_4 0) fun v10_5 =>
  xR Tryd.prog (sLoad 59 v10_5) w fun v11_6 =>
  xP Tryd.prog (sB .len #[59] #[v11_6]) fun v12_7 =>
  xLoop [(.int .i64 0)] w fun J8 vs9 _ w11 =>
    xP Tryd.prog (sBin .lss 3 (vs9.getD 0 undef) v12_7) fun v14_12 =>
    xIf v14_12 (
      xE Tryd.prog (sCall 43 #[a0, (vs9.getD 0 undef)]) w11 fun _ w14 =>
    xP Tryd.prog (sBin .add 3 (vs9.getD 0 undef) (.int .i64 1)) fun v19_15 =>
    J8 [v19_15] w14) (
      xE Tryd.prog (sMakeMap 60 none) w11 fun v21_16 w17 =>
  xP Tryd.prog (sNil a0) fun v22_18 =>
  xP Tryd.prog (sFA 63 v22_18 1) fun v23_19 =>
  xE Tryd.prog (sStore 60 v23_19 v21_16) w17 fun _ w20 =>
  R (.returned (.int .i64 0)) w20))
theorem C_staveref1_Disk_Flush {a0 : Value} {w : World} {R : Ending → World → Prop} (h : S_staveref1_Disk_Flush a0 w R) : Calls Tryd.prog 27 #[a0] w R :=
  funcVC_sound (an := A_staveref1_Disk_Flush) (args := [a0]) (k := 1) Tryd.func27 (by kernel_rfl) rfl
    (Eq.mp (show S_staveref1_Disk_Flush a0 w R = funcVC Tryd.prog Tryd.f27 A_staveref1_Disk_Flush [a0] w R by kernel_rfl) h)

/-- (*stave/staveref1.Disk).Crash -/
def A_staveref1_Disk_Crash : Ann := (.seq .nil (.seq (.seq .nil (.one (.loop [4, 13] (.seq .nil (.seq .nil (.join [4] (.one (.seq .nil (.seq .nil (.seq .nil (.seq (.join [] .nil .nil) .nil))))) .nil)))))) .nil))
def S_staveref1_Disk_Crash (a0 : Value) (a1 : Value) (w : World) (R : Ending → World → Prop) : Prop :=
  xP Tryd.prog (sNil a0) fun v9_1 =>
  xP Tryd.prog (sFA 63 v9_1 0) fun v10_2 =>
  xR Tryd.prog (sLoad 59 v10_2) w fun v11_3 =>
  xP Tryd.prog (sB .len #[59] #[v11_3]) fun v12_4 =>
  xLoop [(.int .i64 0), (.int .i64 0)] w fun J5 vs6 _ w8 =>
    xP Tryd.prog (sBin .lss 3 (vs6.getD 1 undef) v12_4) fun v14_9 =>
    xIf v14_9 (
      xJoin (fun J10 =>
      xP Tryd.prog (sNil a0) fun v18_11 =>
      xP Tryd.prog (sFA 63 v18_11 1) fun v19_12 =>
      xR Tryd.prog (sLoad 60 v19_12) w8 fun v20_13 =>
      xR Tryd.prog (sLookup 60 v20_13 (vs6.getD 1 undef) true) w8 fun v22_14 =>
      xP Tryd.prog (sExtract v22_14 0) fun _ =>
      xP Tryd.prog (sExtract v22_14 1) fun v24_16 =>
      xIf v24_16 (
        xJoin (fun J17 =>
          xP Tryd.prog (sBin .rem 3 (vs6.getD 0 undef) (.int .i64 64)) fun v28_18 =>
          xP Tryd.prog (sBin .shr 31 a1 v28_18) fun v29_19 =>
          xP Tryd.prog (sBin .and 31 v29_19 (.int .u64 1)) fun v30_20 =>
          xR Tryd.prog (sEq .eql 31 true v30_20 (.int .u64 1)) w8 fun v31_21 =>
          xIf v31_21 (
            xE Tryd.prog (sCall 43 #[a0, (vs6.getD 1 undef)]) w8 fun _ w23 =>
            J17 [] w23) (
            J17 [] w8)) fun _ _ w26 =>
        xP Tryd.prog (sBin .add 3 (vs6.getD 0 undef) (.int .i64 1)) fun v36_27 =>
        J10 [v36_27] w26) (
        J10 [(vs6.getD 0 undef)] w8)) fun vs28 _ w30 =>
    xP Tryd.prog (sBin .add 3 (vs6.getD 1 undef) (.int .i64 1)) fun v37_31 =>
    J5 [(vs28.getD 0 undef), v37_31] w30) (
      xE Tryd.prog (sMakeMap 60 none) w8 fun v39_32 w33 =>
  xP Tryd.prog (sNil a0) fun v40_34 =>
  xP Tryd.prog (sFA 63 v40_34 1) fun v41_35 =>
  xE Tryd.prog (sStore 60 v41_35 v39_32) w33 fun _ w36 =>
  R (.returned (.tuple #[])) w36)
theorem C_staveref1_Disk_Crash {a0 : Value} {a1 : Value} {w : World} {R : Ending → World → Prop} (h : S_staveref1_Disk_Crash a0 a1 w R) : Calls Tryd.prog 28 #[a0, a1] w R :=
  funcVC_sound (an := A_staveref1_Disk_Crash) (args := [a0, a1]) (k := 2) Tryd.func28 (by kernel_rfl) rfl
    (Eq.mp (show S_staveref1_Disk_Crash a0 a1 w R = funcVC Tryd.prog Tryd.f28 A_staveref1_Disk_Crash [a0, a1] w R by kernel_rfl) h)

/-- (*stave/staveref1.Disk).Rot -/
def A_staveref1_Disk_Rot : Ann := (.seq .nil (.seq (.join [40] .nil .nil) (.seq .nil (.seq (.seq .nil (.one (.loop [10] (.seq .nil (.seq (.one (.draw (.pre [0, 1, 2, 3, 4, 5, 6, 7, 8, 9, 10, 11, 12, 13, 14, 15, 16, 17] .nil) [0, 0, 0, 6, 0, 0, 0, 96, 240, 496, 0, 0, 2048, 7168, 15360, 32752, 65535, 131071])) .nil))))) (.seq (.draw (.pre [0, 1, 2, 3, 4, 5, 6, 7, 8, 9, 10, 11, 12, 13, 14, 15] .nil) [0, 1, 3, 7, 0, 0, 32, 96, 224, 0, 0, 1535, 3583, 8191, 16383, 32767]) .nil)))))
def S_staveref1_Disk_Rot (a0 : Value) (a1 : Value) (a2 : Value) (a3 : Value) (w : World) (R : Ending → World → Prop) : Prop :=
  xJoin (fun J1 =>
    xP Tryd.prog (sNil a0) fun v12_2 =>
    xP Tryd.prog (sFA 63 v12_2 3) fun v13_3 =>
    xR Tryd.prog (sLoad 4 v13_3) w fun v14_4 =>
    xIf v14_4 (
    J1 [(.bool true)] w) (
    xE Tryd.prog (sCall 42 #[a0, a1]) w fun v18_5 w6 =>
    xP Tryd.prog (sUn .not v18_5) fun v19_7 =>
    xIf v19_7 (
    J1 [(.bool true)] w6) (
    xP Tryd.prog (sBin .lss 3 a2 (.int .i64 0)) fun v23_8 =>
    xIf v23_8 (
    J1 [(.bool true)] w6) (
    xP Tryd.prog (sBin .gtr 3 a2 (.int .i64 124)) fun v27_9 =>
    xIf v27_9 (
    J1 [(.bool true)] w6) (
    xR Tryd.prog (sEq .eql 35 true a3 (.int .u32 0)) w6 fun v31_10 =>
    xIf v31_10 (
    J1 [(.bool true)] w6) (
    xP Tryd.prog (sNil a0) fun v35_11 =>
    xP Tryd.prog (sFA 63 v35_11 2) fun v36_12 =>
    xR Tryd.prog (sLoad 61 v36_12) w6 fun v37_13 =>
    xR Tryd.prog (sLookup 61 v37_13 a1 false) w6 fun v39_14 =>
    J1 [v39_14] w6)))))) fun vs15 _ w17 =>
  xIf (vs15.getD 0 undef) (
    R (.returned (.bool false)) w17) (
    xE Tryd.prog (sBuildSlice 28 0 #[]) w17 fun v41_18 w19 =>
  xP Tryd.prog (sNil a0) fun v43_20 =>
  xP Tryd.prog (sFA 63 v43_20 0) fun v44_21 =>
  xR Tryd.prog (sLoad 59 v44_21) w19 fun v45_22 =>
  xP Tryd.prog (sIA 59 v45_22 a1) fun v47_23 =>
  xR Tryd.prog (sLoad 28 v47_23) w19 fun v48_24 =>
  xE Tryd.prog (sB .append #[28, 28] #[v41_18, v48_24]) w19 fun v49_25 w26 =>
  xLoop [(.int .i64 0)] w26 fun J27 vs28 _ w30 =>
    xP Tryd.prog (sBin .lss 3 (vs28.getD 0 undef) (.int .i64 4)) fun v51_31 =>
    xIf v51_31 (
      xP Tryd.prog (sBin .add 3 a2 (vs28.getD 0 undef)) fun v57_32 =>
    xP Tryd.prog (sBin .add 3 a2 (vs28.getD 0 undef)) fun v61_33 =>
    xP Tryd.prog (sIA 28 v49_25 v61_33) fun v62_34 =>
    xR Tryd.prog (sLoad 5 v62_34) (w30.drew) fun v63_35 =>
    xP Tryd.prog (sBin .mul 3 (.int .i64 8) (vs28.getD 0 undef)) fun v66_36 =>
    xP Tryd.prog (sBin .shr 35 a3 v66_36) fun v67_37 =>
    xP Tryd.prog (sConv 35 5 v67_37) fun v68_38 =>
    xP Tryd.prog (sBin .xor 5 v63_35 v68_38) fun v69_39 =>
    xP Tryd.prog (sIA 28 v49_25 v57_32) fun v70_40 =>
    xE Tryd.prog (sStore 5 v70_40 v69_39) (w30.drew) fun _ w41 =>
    xP Tryd.prog (sBin .add 3 (vs28.getD 0 undef) (.int .i64 1)) fun v53_42 =>
    J27 [v53_42] w41) (
      xP Tryd.prog (sNil a0) fun v72_43 =>
  xP Tryd.prog (sFA 63 v72_43 0) fun v73_44 =>
  xR Tryd.prog (sLoad 59 v73_44) (w30.drew) fun v74_45 =>
  xP Tryd.prog (sNil a0) fun v77_46 =>
  xP Tryd.prog (sFA 63 v77_46 2) fun v78_47 =>
  xR Tryd.prog (sLoad 61 v78_47) (w30.drew) fun v79_48 =>
  xP Tryd.prog (sIA 59 v74_45 a1) fun v82_49 =>
  xE Tryd.prog (sStore 28 v82_49 v49_25) (w30.drew) fun _ w50 =>
  xE Tryd.prog (sMapEntry 61 v79_48 a1) w50 fun v83_51 w52 =>
  xP Tryd.prog (sExtract v83_51 1) fun v84_53 =>
  xE Tryd.prog (sEntryStore 61 v79_48 v84_53 (.bool true)) w52 fun _ w54 =>
  R (.returned (.bool true)) w54))
theorem C_staveref1_Disk_Rot {a0 : Value} {a1 : Value} {a2 : Value} {a3 : Value} {w : World} {R : Ending → World → Prop} (h : S_staveref1_Disk_Rot a0 a1 a2 a3 w R) : Calls Tryd.prog 29 #[a0, a1, a2, a3] w R :=
  funcVC_sound (an := A_staveref1_Disk_Rot) (args := [a0, a1, a2, a3]) (k := 4) Tryd.func29 (by kernel_rfl) rfl
    (Eq.mp (show S_staveref1_Disk_Rot a0 a1 a2 a3 w R = funcVC Tryd.prog Tryd.f29 A_staveref1_Disk_Rot [a0, a1, a2, a3] w R by kernel_rfl) h)

/-- (*stave/staveref1.Disk).Die -/
def A_staveref1_Disk_Die : Ann := .nil
def S_staveref1_Disk_Die (a0 : Value) (w : World) (R : Ending → World → Prop) : Prop :=
  xP Tryd.prog (sNil a0) fun v3_1 =>
  xP Tryd.prog (sFA 63 v3_1 3) fun v4_2 =>
  xE Tryd.prog (sStore 4 v4_2 (.bool true)) w fun _ w3 =>
  xE Tryd.prog (sCall 44 #[a0]) w3 fun _ w5 =>
  R (.returned (.tuple #[])) w5
theorem C_staveref1_Disk_Die {a0 : Value} {w : World} {R : Ending → World → Prop} (h : S_staveref1_Disk_Die a0 w R) : Calls Tryd.prog 30 #[a0] w R :=
  funcVC_sound (an := A_staveref1_Disk_Die) (args := [a0]) (k := 1) Tryd.func30 (by kernel_rfl) rfl
    (Eq.mp (show S_staveref1_Disk_Die a0 w R = funcVC Tryd.prog Tryd.f30 A_staveref1_Disk_Die [a0] w R by kernel_rfl) h)

/-- (*stave/staveref1.Disk).Replace -/
def A_staveref1_Disk_Replace : Ann := .nil
def S_staveref1_Disk_Replace (a0 : Value) (w : World) (R : Ending → World → Prop) : Prop :=
  xP Tryd.prog (sNil a0) fun v3_1 =>
  xP Tryd.prog (sFA 63 v3_1 3) fun v4_2 =>
  xE Tryd.prog (sStore 4 v4_2 (.bool false)) w fun _ w3 =>
  xE Tryd.prog (sCall 44 #[a0]) w3 fun _ w5 =>
  R (.returned (.tuple #[])) w5
theorem C_staveref1_Disk_Replace {a0 : Value} {w : World} {R : Ending → World → Prop} (h : S_staveref1_Disk_Replace a0 w R) : Calls Tryd.prog 31 #[a0] w R :=
  funcVC_sound (an := A_staveref1_Disk_Replace) (args := [a0]) (k := 1) Tryd.func31 (by kernel_rfl) rfl
    (Eq.mp (show S_staveref1_Disk_Replace a0 w R = funcVC Tryd.prog Tryd.f31 A_staveref1_Disk_Replace [a0] w R by kernel_rfl) h)

/-- (*stave/staveref1.Disk).Read -/
def A_staveref1_Disk_Read : Ann := .nil
def S_staveref1_Disk_Read (a0 : Value) (a1 : Value) (w : World) (R : Ending → World → Prop) : Prop :=
  xP Tryd.prog (sNil a0) fun v9_1 =>
  xP Tryd.prog (sFA 63 v9_1 3) fun v10_2 =>
  xR Tryd.prog (sLoad 4 v10_2) w fun v11_3 =>
  xIf v11_3 (
    R (.returned (.tuple #[(.slice none 0 0), (.int .i64 5)])) w) (
    xE Tryd.prog (sCall 42 #[a0, a1]) w fun v14_4 w5 =>
  xP Tryd.prog (sUn .not v14_4) fun v15_6 =>
  xIf v15_6 (
    R (.returned (.tuple #[(.slice none 0 0), (.int .i64 1)])) w5) (
    xP Tryd.prog (sNil a0) fun v18_7 =>
  xP Tryd.prog (sFA 63 v18_7 1) fun v19_8 =>
  xR Tryd.prog (sLoad 60 v19_8) w5 fun v20_9 =>
  xR Tryd.prog (sLookup 60 v20_9 a1 true) w5 fun v22_10 =>
  xP Tryd.prog (sExtract v22_10 0) fun v23_11 =>
  xP Tryd.prog (sExtract v22_10 1) fun v24_12 =>
  xIf v24_12 (
    xE Tryd.prog (sBuildSlice 28 0 #[]) w5 fun v26_13 w14 =>
    xE Tryd.prog (sB .append #[28, 28] #[v26_13, v23_11]) w14 fun v28_15 w16 =>
    R (.returned (.tuple #[v28_15, (.int .i64 0)])) w16) (
    xE Tryd.prog (sBuildSlice 28 0 #[]) w5 fun v29_17 w18 =>
  xP Tryd.prog (sNil a0) fun v31_19 =>
  xP Tryd.prog (sFA 63 v31_19 0) fun v32_20 =>
  xR Tryd.prog (sLoad 59 v32_20) w18 fun v33_21 =>
  xP Tryd.prog (sIA 59 v33_21 a1) fun v35_22 =>
  xR Tryd.prog (sLoad 28 v35_22) w18 fun v36_23 =>
  xE Tryd.prog (sB .append #[28, 28] #[v29_17, v36_23]) w18 fun v37_24 w25 =>
  R (.returned (.tuple #[v37_24, (.int .i64 0)])) w25)))
theorem C_staveref1_Disk_Read {a0 : Value} {a1 : Value} {w : World} {R : Ending → World → Prop} (h : S_staveref1_Disk_Read a0 a1 w R) : Calls Tryd.prog 32 #[a0, a1] w R :=
  funcVC_sound (an := A_staveref1_Disk_Read) (args := [a0, a1]) (k := 2) Tryd.func32 (by kernel_rfl) rfl
    (Eq.mp (show S_staveref1_Disk_Read a0 a1 w R = funcVC Tryd.prog Tryd.f32 A_staveref1_Disk_Read [a0, a1] w R by kernel_rfl) h)

/-- stave/stavebook.Same[int] -/
def A_stavebook_Same_int : Ann := (.seq .nil (.seq .nil (.seq (.seq .nil (.one (.loop [5] (.seq .nil (.seq (.one (.seq (.draw (.pre [0, 1, 2, 3, 4, 5, 6, 7, 8] .nil) [0, 0, 3, 7, 0, 0, 48, 112, 255]) .nil)) .nil))))) .nil)))
def S_stavebook_Same_int (a0 : Value) (a1 : Value) (w : World) (R : Ending → World → Prop) : Prop :=
  xP Tryd.prog (sB .len #[46] #[a0]) fun v7_1 =>
  xP Tryd.prog (sB .len #[46] #[a1]) fun v9_2 =>
  xR Tryd.prog (sEq .neq 3 false v7_1 v9_2) w fun v10_3 =>
  xIf v10_3 (
    R (.returned (.bool false)) w) (
    xLoop [(.int .i64 0)] w fun J4 vs5 _ w7 =>
    xP Tryd.prog (sB .len #[46] #[a0]) fun v13_8 =>
    xP Tryd.prog (sBin .lss 3 (vs5.getD 0 undef) v13_8) fun v14_9 =>
    xIf v14_9 (
      xP Tryd.prog (sIA 46 a0 (vs5.getD 0 undef)) fun v19_10 =>
    xR Tryd.prog (sLoad 3 v19_10) (w7.drew) fun v20_11 =>
    xP Tryd.prog (sIA 46 a1 (vs5.getD 0 undef)) fun v23_12 =>
    xR Tryd.prog (sLoad 3 v23_12) (w7.drew) fun v24_13 =>
    xR Tryd.prog (sEq .neq 3 false v20_11 v24_13) (w7.drew) fun v25_14 =>
    xIf v25_14 (
      R (.returned (.bool false)) (w7.drew)) (
      xP Tryd.prog (sBin .add 3 (vs5.getD 0 undef) (.int .i64 1)) fun v16_15 =>
    J4 [v16_15] (w7.drew))) (
      R (.returned (.bool true)) w7))
theorem C_stavebook_Same_int {a0 : Value} {a1 : Value} {w : World} {R : Ending → World → Prop} (h : S_stavebook_Same_int a0 a1 w R) : Calls Tryd.prog 33 #[a0, a1] w R :=
  funcVC_sound (an := A_stavebook_Same_int) (args := [a0, a1]) (k := 2) Tryd.func33 (by kernel_rfl) rfl
    (Eq.mp (show S_stavebook_Same_int a0 a1 w R = funcVC Tryd.prog Tryd.f33 A_stavebook_Same_int [a0, a1] w R by kernel_rfl) h)

/-- (*stave/disk.Disk).Sectors -/
def A_disk_Disk_Sectors : Ann := .nil
def S_disk_Disk_Sectors (a0 : Value) (w : World) (R : Ending → World → Prop) : Prop :=
  xP Tryd.prog (sNil a0) fun v4_1 =>
  xP Tryd.prog (sFA 71 v4_1 0) fun v5_2 =>
  xR Tryd.prog (sLoad 59 v5_2) w fun v6_3 =>
  xP Tryd.prog (sB .len #[59] #[v6_3]) fun v7_4 =>
  R (.returned v7_4) w
theorem C_disk_Disk_Sectors {a0 : Value} {w : World} {R : Ending → World → Prop} (h : S_disk_Disk_Sectors a0 w R) : Calls Tryd.prog 34 #[a0] w R :=
  funcVC_sound (an := A_disk_Disk_Sectors) (args := [a0]) (k := 1) Tryd.func34 (by kernel_rfl) rfl
    (Eq.mp (show S_disk_Disk_Sectors a0 w R = funcVC Tryd.prog Tryd.f34 A_disk_Disk_Sectors [a0] w R by kernel_rfl) h)

/-- stave/fault.Wrap -/
def A_fault_Wrap : Ann := .nil
def S_fault_Wrap (a0 : Value) (a1 : Value) (a2 : Value) (w : World) (R : Ending → World → Prop) : Prop :=
  xR Tryd.prog (sEq .eql 24 true a2 (.nilIface)) w fun v8_1 =>
  xIf v8_1 (
    R (.returned (.nilIface)) w) (
    xP Tryd.prog (sBuild 81 #[(0, a0), (1, a1), (2, a2)]) fun v12_2 =>
  xP Tryd.prog (sIface 81 v12_2) fun v13_3 =>
  R (.returned v13_3) w)
theorem C_fault_Wrap {a0 : Value} {a1 : Value} {a2 : Value} {w : World} {R : Ending → World → Prop} (h : S_fault_Wrap a0 a1 a2 w R) : Calls Tryd.prog 35 #[a0, a1, a2] w R :=
  funcVC_sound (an := A_fault_Wrap) (args := [a0, a1, a2]) (k := 3) Tryd.func35 (by kernel_rfl) rfl
    (Eq.mp (show S_fault_Wrap a0 a1 a2 w R = funcVC Tryd.prog Tryd.f35 A_fault_Wrap [a0, a1, a2] w R by kernel_rfl) h)

/-- (*stave/disk.Disk).blank -/
def A_disk_Disk_blank : Ann := (.seq (.seq .nil (.one (.loop [8] (.seq .nil (.seq .nil (.seq (.one (.seq .nil (.draw (.pre [0, 1, 2, 3, 4, 5, 6, 7] .nil) [0, 1, 3, 7, 0, 0, 63, 127]))) .nil)))))) .nil)
def S_disk_Disk_blank (a0 : Value) (w : World) (R : Ending → World → Prop) : Prop :=
  xP Tryd.prog (sNil a0) fun v4_1 =>
  xP Tryd.prog (sFA 71 v4_1 0) fun v5_2 =>
  xR Tryd.prog (sLoad 59 v5_2) w fun v6_3 =>
  xP Tryd.prog (sB .len #[59] #[v6_3]) fun v7_4 =>
  xLoop [(.int .i64 0)] w fun J5 vs6 _ w8 =>
    xP Tryd.prog (sBin .lss 3 (vs6.getD 0 undef) v7_4) fun v9_9 =>
    xIf v9_9 (
      xP Tryd.prog (sNil a0) fun v12_10 =>
    xP Tryd.prog (sFA 71 v12_10 0) fun v13_11 =>
    xR Tryd.prog (sLoad 59 v13_11) (w8.drew) fun v14_12 =>
    xE Tryd.prog (sMakeSlice 28 (.int .i64 128) (.int .i64 128)) (w8.drew) fun v16_13 w14 =>
    xStill Tryd.prog (sLoad 59 v13_11) v14_12 w14 <|
    xP Tryd.prog (sIA 59 v14_12 (vs6.getD 0 undef)) fun v17_15 =>
    xE Tryd.prog (sStore 28 v17_15 v16_13) w14 fun _ w16 =>
    xP Tryd.prog (sBin .add 3 (vs6.getD 0 undef) (.int .i64 1)) fun v18_17 =>
    J5 [v18_17] w16) (
      xE Tryd.prog (sMakeMap 60 none) w8 fun v21_18 w19 =>
  xE Tryd.prog (sMakeMap 61 none) w19 fun v22_20 w21 =>
  xP Tryd.prog (sNil a0) fun v23_22 =>
  xP Tryd.prog (sFA 71 v23_22 1) fun v24_23 =>
  xE Tryd.prog (sStore 60 v24_23 v21_18) w21 fun _ w24 =>
  xP Tryd.prog (sNil a0) fun v25_25 =>
  xP Tryd.prog (sFA 71 v25_25 2) fun v26_26 =>
  xE Tryd.prog (sStore 61 v26_26 v22_20) w24 fun _ w27 =>
  R (.returned (.tuple #[])) w27)
theorem C_disk_Disk_blank {a0 : Value} {w : World} {R : Ending → World → Prop} (h : S_disk_Disk_blank a0 w R) : Calls Tryd.prog 36 #[a0] w R :=
  funcVC_sound (an := A_disk_Disk_blank) (args := [a0]) (k := 1) Tryd.func36 (by kernel_rfl) rfl
    (Eq.mp (show S_disk_Disk_blank a0 w R = funcVC Tryd.prog Tryd.f36 A_disk_Disk_blank [a0] w R by kernel_rfl) h)

/-- (*stave/disk.Disk).refused -/
def A_disk_Disk_refused : Ann := (.seq .nil (.seq (.one (.seq .nil (.seq .nil (.join [18] .nil .nil)))) .nil))
def S_disk_Disk_refused (a0 : Value) (a1 : Value) (a2 : Value) (a3 : Value) (w : World) (R : Ending → World → Prop) : Prop :=
  xP Tryd.prog (sNil a0) fun v11_1 =>
  xP Tryd.prog (sFA 71 v11_1 3) fun v12_2 =>
  xR Tryd.prog (sLoad 4 v12_2) w fun v13_3 =>
  xIf v13_3 (
    xP Tryd.prog (sIface 37 (.int .i64 5)) fun v16_4 =>
    xE Tryd.prog (sCall 35 #[a1, a2, v16_4]) w fun v17_5 w6 =>
    R (.returned v17_5) w6) (
    xJoin (fun J7 =>
      xIf a3 (
      J7 [(.bool true)] w) (
      xP Tryd.prog (sBin .lss 3 a2 (.int .i64 0)) fun v22_8 =>
      xIf v22_8 (
      J7 [(.bool true)] w) (
      xP Tryd.prog (sNil a0) fun v27_9 =>
      xP Tryd.prog (sFA 71 v27_9 0) fun v28_10 =>
      xR Tryd.prog (sLoad 59 v28_10) w fun v29_11 =>
      xP Tryd.prog (sB .len #[59] #[v29_11]) fun v30_12 =>
      xP Tryd.prog (sBin .geq 3 a2 v30_12) fun v31_13 =>
      J7 [v31_13] w))) fun vs14 _ w16 =>
    xIf (vs14.getD 0 undef) (
      xP Tryd.prog (sIface 37 (.int .i64 1)) fun v35_17 =>
      xE Tryd.prog (sCall 35 #[a1, a2, v35_17]) w16 fun v36_18 w19 =>
      R (.returned v36_18) w19) (
      R (.returned (.nilIface)) w16))
theorem C_disk_Disk_refused {a0 : Value} {a1 : Value} {a2 : Value} {a3 : Value} {w : World} {R : Ending → World → Prop} (h : S_disk_Disk_refused a0 a1 a2 a3 w R) : Calls Tryd.prog 37 #[a0, a1, a2, a3] w R :=
  funcVC_sound (an := A_disk_Disk_refused) (args := [a0, a1, a2, a3]) (k := 4) Tryd.func37 (by kernel_rfl) rfl
    (Eq.mp (show S_disk_Disk_refused a0 a1 a2 a3 w R = funcVC Tryd.prog Tryd.f37 A_disk_Disk_refused [a0, a1, a2, a3] w R by kernel_rfl) h)

/-- slices.Clone[[]byte,byte] -/
def A_slices_Clone_byte : Ann := .nil
def S_slices_Clone_byte (a0 : Value) (w : World) (R : Ending → World → Prop) : Prop :=
  xR Tryd.prog (sEq .eql 28 true a0 (.slice none 0 0)) w fun v4_1 =>
  xIf v4_1 (
    R (.returned (.slice none 0 0)) w) (
    xE Tryd.prog (sBuildSlice 28 0 #[]) w fun v5_2 w3 =>
  xE Tryd.prog (sB .append #[28, 28] #[v5_2, a0]) w3 fun v7_4 w5 =>
  R (.returned v7_4) w5)
theorem C_slices_Clone_byte {a0 : Value} {w : World} {R : Ending → World → Prop} (h : S_slices_Clone_byte a0 w R) : Calls Tryd.prog 38 #[a0] w R :=
  funcVC_sound (an := A_slices_Clone_byte) (args := [a0]) (k := 1) Tryd.func38 (by kernel_rfl) rfl
    (Eq.mp (show S_slices_Clone_byte a0 w R = funcVC Tryd.prog Tryd.f38 A_slices_Clone_byte [a0] w R by kernel_rfl) h)

/-- (*stave/disk.Disk).put -/
def A_disk_Disk_put : Ann := (.seq (.draw (.pre [0, 1, 2, 3, 4, 5, 6, 7, 8, 9, 10, 11, 12] .nil) [0, 1, 3, 7, 0, 0, 32, 96, 224, 0, 992, 2047, 4095]) .nil)
def S_disk_Disk_put (a0 : Value) (a1 : Value) (w : World) (R : Ending → World → Prop) : Prop :=
  xP Tryd.prog (sNil a0) fun v5_1 =>
  xP Tryd.prog (sFA 71 v5_1 0) fun v6_2 =>
  xR Tryd.prog (sLoad 59 v6_2) (w.drew) fun v7_3 =>
  xP Tryd.prog (sNil a0) fun v10_4 =>
  xP Tryd.prog (sFA 71 v10_4 1) fun v11_5 =>
  xR Tryd.prog (sLoad 60 v11_5) (w.drew) fun v12_6 =>
  xR Tryd.prog (sLookup 60 v12_6 a1 false) (w.drew) fun v14_7 =>
  xP Tryd.prog (sIA 59 v7_3 a1) fun v15_8 =>
  xE Tryd.prog (sStore 28 v15_8 v14_7) (w.drew) fun _ w9 =>
  xP Tryd.prog (sNil a0) fun v17_10 =>
  xP Tryd.prog (sFA 71 v17_10 2) fun v18_11 =>
  xR Tryd.prog (sLoad 61 v18_11) w9 fun v19_12 =>
  xE Tryd.prog (sMapUpdate 61 v19_12 a1 (.bool false)) w9 fun _ w13 =>
  R (.returned (.tuple #[])) w13
theorem C_disk_Disk_put {a0 : Value} {a1 : Value} {w : World} {R : Ending → World → Prop} (h : S_disk_Disk_put a0 a1 w R) : Calls Tryd.prog 39 #[a0, a1] w R :=
  funcVC_sound (an := A_disk_Disk_put) (args := [a0, a1]) (k := 2) Tryd.func39 (by kernel_rfl) rfl
    (Eq.mp (show S_disk_Disk_put a0 a1 w R = funcVC Tryd.prog Tryd.f39 A_disk_Disk_put [a0, a1] w R by kernel_rfl) h)

/-- errors.As -/
def A_errors_As : Ann := (.seq .nil (.seq .nil (.join [] .nil (.seq .nil (.seq .nil (.join [] (.join [23] .nil .nil) (.seq .nil (.join [] (.join [35] .nil .nil) .nil))))))))
def S_errors_As (a0 : Value) (a1 : Value) (w : World) (R : Ending → World → Prop) : Prop :=
  xR Tryd.prog (sEq .eql 24 true a0 (.nilIface)) w fun v9_1 =>
  xIf v9_1 (
    R (.returned (.bool false)) w) (
    xJoin (fun J2 =>
    xR Tryd.prog (sEq .eql 20 true a1 (.nilIface)) w fun v11_3 =>
    xIf v11_3 (
      xP Tryd.prog (sIface 9 (.string (ByteArray.mk #[101, 114, 114, 111, 114, 115, 58, 32, 116, 97, 114, 103, 101, 116, 32, 99, 97, 110, 110, 111, 116, 32, 98, 101, 32, 110, 105, 108]))) fun v12_4 =>
      xE Tryd.prog (sPanic v12_4) w fun _ w5 =>
      J2 [] w5) (
      J2 [] w)) fun _ _ w8 =>
  xE Tryd.prog (sCall 45 #[a1]) w8 fun v14_9 w10 =>
  xE Tryd.prog (sAlloc 85) w10 fun v5_11 w12 =>
  xE Tryd.prog (sStore 85 v5_11 v14_9) w12 fun _ w13 =>
  xR Tryd.prog (sLoad 85 v5_11) w13 fun v15_14 =>
  xE Tryd.prog (sCall 46 #[v15_14]) w13 fun v16_15 w16 =>
  xJoin (fun J17 =>
    xJoin (fun J18 =>
      xE Tryd.prog (sInvoke "Kind" #[v16_15]) w16 fun v18_19 w20 =>
      xR Tryd.prog (sEq .neq 90 true v18_19 (.int .u8 22)) w20 fun v19_21 =>
      xIf v19_21 (
      J18 [(.bool true)] w20) (
      xR Tryd.prog (sLoad 85 v5_11) w20 fun v21_22 =>
      xE Tryd.prog (sCall 47 #[v21_22]) w20 fun v22_23 w24 =>
      J18 [v22_23] w24)) fun vs25 _ w27 =>
    xIf (vs25.getD 0 undef) (
      xP Tryd.prog (sIface 9 (.string (ByteArray.mk #[101, 114, 114, 111, 114, 115, 58, 32, 116, 97, 114, 103, 101, 116, 32, 109, 117, 115, 116, 32, 98, 101, 32, 97, 32, 110, 111, 110, 45, 110, 105, 108, 32, 112, 111, 105, 110, 116, 101, 114]))) fun v24_28 =>
      xE Tryd.prog (sPanic v24_28) w27 fun _ w29 =>
      J17 [] w29) (
      J17 [] w27)) fun _ _ w32 =>
  xE Tryd.prog (sInvoke "Elem" #[v16_15]) w32 fun v26_33 w34 =>
  xJoin (fun J35 =>
    xJoin (fun J36 =>
      xE Tryd.prog (sInvoke "Kind" #[v26_33]) w34 fun v28_37 w38 =>
      xR Tryd.prog (sEq .neq 90 true v28_37 (.int .u8 20)) w38 fun v29_39 =>
      xIf v29_39 (
      xR Tryd.prog (sLoad 88 (.pointer (some ⟨0, 0, none⟩))) w38 fun v32_40 =>
      xE Tryd.prog (sInvoke "Implements" #[v26_33, v32_40]) w38 fun v33_41 w42 =>
      xP Tryd.prog (sUn .not v33_41) fun v34_43 =>
      J36 [v34_43] w42) (
      J36 [(.bool false)] w38)) fun vs44 _ w46 =>
    xIf (vs44.getD 0 undef) (
      xP Tryd.prog (sIface 9 (.string (ByteArray.mk #[101, 114, 114, 111, 114, 115, 58, 32, 42, 116, 97, 114, 103, 101, 116, 32, 109, 117, 115, 116, 32, 98, 101, 32, 105, 110, 116, 101, 114, 102, 97, 99, 101, 32, 111, 114, 32, 105, 109, 112, 108, 101, 109, 101, 110, 116, 32, 101, 114, 114, 111, 114]))) fun v36_47 =>
      xE Tryd.prog (sPanic v36_47) w46 fun _ w48 =>
      J35 [] w48) (
      J35 [] w46)) fun _ _ w51 =>
  xR Tryd.prog (sLoad 85 v5_11) w51 fun v39_52 =>
  xE Tryd.prog (sCall 48 #[a0, a1, v39_52, v26_33]) w51 fun v41_53 w54 =>
  R (.returned v41_53) w54)
theorem C_errors_As {a0 : Value} {a1 : Value} {w : World} {R : Ending → World → Prop} (h : S_errors_As a0 a1 w R) : Calls Tryd.prog 40 #[a0, a1] w R :=
  funcVC_sound (an := A_errors_As) (args := [a0, a1]) (k := 2) Tryd.func40 (by kernel_rfl) rfl
    (Eq.mp (show S_errors_As a0 a1 w R = funcVC Tryd.prog Tryd.f40 A_errors_As [a0, a1] w R by kernel_rfl) h)

/-- errors.Is -/
def A_errors_Is : Ann := (.seq .nil (.seq (.join [11] .nil .nil) .nil))
def S_errors_Is (a0 : Value) (a1 : Value) (w : World) (R : Ending → World → Prop) : Prop :=
  xJoin (fun J1 =>
    xR Tryd.prog (sEq .eql 24 true a0 (.nilIface)) w fun v7_2 =>
    xIf v7_2 (
    J1 [(.bool true)] w) (
    xR Tryd.prog (sEq .eql 24 true a1 (.nilIface)) w fun v10_3 =>
    J1 [v10_3] w)) fun vs4 _ w6 =>
  xIf (vs4.getD 0 undef) (
    xR Tryd.prog (sEq .eql 24 false a0 a1) w6 fun v14_7 =>
    R (.returned v14_7) w6) (
    xE Tryd.prog (sCall 49 #[a1]) w6 fun v16_8 w9 =>
  xE Tryd.prog (sInvoke "Comparable" #[v16_8]) w9 fun v17_10 w11 =>
  xE Tryd.prog (sCall 50 #[a0, a1, v17_10]) w11 fun v21_12 w13 =>
  R (.returned v21_12) w13)
theorem C_errors_Is {a0 : Value} {a1 : Value} {w : World} {R : Ending → World → Prop} (h : S_errors_Is a0 a1 w R) : Calls Tryd.prog 41 #[a0, a1] w R :=
  funcVC_sound (an := A_errors_Is) (args := [a0, a1]) (k := 2) Tryd.func41 (by kernel_rfl) rfl
    (Eq.mp (show S_errors_Is a0 a1 w R = funcVC Tryd.prog Tryd.f41 A_errors_Is [a0, a1] w R by kernel_rfl) h)

/-- (*stave/staveref1.Disk).has -/
def A_staveref1_Disk_has : Ann := .nil
def S_staveref1_Disk_has (a0 : Value) (a1 : Value) (w : World) (R : Ending → World → Prop) : Prop :=
  xP Tryd.prog (sBin .geq 3 a1 (.int .i64 0)) fun v6_1 =>
  xIf v6_1 (
  xP Tryd.prog (sNil a0) fun v10_2 =>
  xP Tryd.prog (sFA 63 v10_2 0) fun v11_3 =>
  xR Tryd.prog (sLoad 59 v11_3) w fun v12_4 =>
  xP Tryd.prog (sB .len #[59] #[v12_4]) fun v13_5 =>
  xP Tryd.prog (sBin .lss 3 a1 v13_5) fun v14_6 =>
  R (.returned v14_6) w) (
  R (.returned (.bool false)) w)
theorem C_staveref1_Disk_has {a0 : Value} {a1 : Value} {w : World} {R : Ending → World → Prop} (h : S_staveref1_Disk_has a0 a1 w R) : Calls Tryd.prog 42 #[a0, a1] w R :=
  funcVC_sound (an := A_staveref1_Disk_has) (args := [a0, a1]) (k := 2) Tryd.func42 (by kernel_rfl) rfl
    (Eq.mp (show S_staveref1_Disk_has a0 a1 w R = funcVC Tryd.prog Tryd.f42 A_staveref1_Disk_has [a0, a1] w R by kernel_rfl) h)

/-- (*stave/staveref1.Disk).keep -/
def A_staveref1_Disk_keep : Ann := (.seq .nil (.seq .nil (.seq (.draw (.pre [0, 1, 2, 3, 4, 5, 6, 7, 8, 9, 10, 11, 12, 13, 14, 15] .nil) [0, 1, 3, 7, 0, 0, 32, 96, 224, 0, 0, 1535, 3583, 8191, 16383, 32767]) .nil)))
def S_staveref1_Disk_keep (a0 : Value) (a1 : Value) (w : World) (R : Ending → World → Prop) : Prop :=
  xP Tryd.prog (sNil a0) fun v8_1 =>
  xP Tryd.prog (sFA 63 v8_1 1) fun v9_2 =>
  xR Tryd.prog (sLoad 60 v9_2) w fun v10_3 =>
  xR Tryd.prog (sLookup 60 v10_3 a1 true) w fun v12_4 =>
  xP Tryd.prog (sExtract v12_4 0) fun v13_5 =>
  xP Tryd.prog (sExtract v12_4 1) fun v14_6 =>
  xIf v14_6 (
    xP Tryd.prog (sNil a0) fun v17_7 =>
    xP Tryd.prog (sFA 63 v17_7 0) fun v18_8 =>
    xR Tryd.prog (sLoad 59 v18_8) (w.drew) fun v19_9 =>
    xP Tryd.prog (sNil a0) fun v22_10 =>
    xP Tryd.prog (sFA 63 v22_10 2) fun v23_11 =>
    xR Tryd.prog (sLoad 61 v23_11) (w.drew) fun v24_12 =>
    xP Tryd.prog (sIA 59 v19_9 a1) fun v27_13 =>
    xE Tryd.prog (sStore 28 v27_13 v13_5) (w.drew) fun _ w14 =>
    xE Tryd.prog (sMapEntry 61 v24_12 a1) w14 fun v28_15 w16 =>
    xP Tryd.prog (sExtract v28_15 1) fun v29_17 =>
    xE Tryd.prog (sEntryStore 61 v24_12 v29_17 (.bool false)) w16 fun _ w18 =>
    R (.returned (.tuple #[])) w18) (
    R (.returned (.tuple #[])) w)
theorem C_staveref1_Disk_keep {a0 : Value} {a1 : Value} {w : World} {R : Ending → World → Prop} (h : S_staveref1_Disk_keep a0 a1 w R) : Calls Tryd.prog 43 #[a0, a1] w R :=
  funcVC_sound (an := A_staveref1_Disk_keep) (args := [a0, a1]) (k := 2) Tryd.func43 (by kernel_rfl) rfl
    (Eq.mp (show S_staveref1_Disk_keep a0 a1 w R = funcVC Tryd.prog Tryd.f43 A_staveref1_Disk_keep [a0, a1] w R by kernel_rfl) h)

/-- (*stave/staveref1.Disk).blank -/
def A_staveref1_Disk_blank : Ann := (.seq (.seq .nil (.one (.loop [8] (.seq .nil (.seq .nil (.seq (.one (.seq .nil (.draw (.pre [0, 1, 2, 3, 4, 5, 6, 7] .nil) [0, 1, 3, 7, 0, 0, 63, 127]))) .nil)))))) .nil)
def S_staveref1_Disk_blank (a0 : Value) (w : World) (R : Ending → World → Prop) : Prop :=
  xP Tryd.prog (sNil a0) fun v4_1 =>
  xP Tryd.prog (sFA 63 v4_1 0) fun v5_2 =>
  xR Tryd.prog (sLoad 59 v5_2) w fun v6_3 =>
  xP Tryd.prog (sB .len #[59] #[v6_3]) fun v7_4 =>
  xLoop [(.int .i64 0)] w fun J5 vs6 _ w8 =>
    xP Tryd.prog (sBin .lss 3 (vs6.getD 0 undef) v7_4) fun v9_9 =>
    xIf v9_9 (
      xP Tryd.prog (sNil a0) fun v12_10 =>
    xP Tryd.prog (sFA 63 v12_10 0) fun v13_11 =>
    xR Tryd.prog (sLoad 59 v13_11) (w8.drew) fun v14_12 =>
    xE Tryd.prog (sMakeSlice 28 (.int .i64 128) (.int .i64 128)) (w8.drew) fun v16_13 w14 =>
    xStill Tryd.prog (sLoad 59 v13_11) v14_12 w14 <|
    xP Tryd.prog (sIA 59 v14_12 (vs6.getD 0 undef)) fun v17_15 =>
    xE Tryd.prog (sStore 28 v17_15 v16_13) w14 fun _ w16 =>
    xP Tryd.prog (sBin .add 3 (vs6.getD 0 undef) (.int .i64 1)) fun v18_17 =>
    J5 [v18_17] w16) (
      xE Tryd.prog (sMakeMap 60 none) w8 fun v21_18 w19 =>
  xE Tryd.prog (sMakeMap 61 none) w19 fun v22_20 w21 =>
  xP Tryd.prog (sNil a0) fun v23_22 =>
  xP Tryd.prog (sFA 63 v23_22 1) fun v24_23 =>
  xE Tryd.prog (sStore 60 v24_23 v21_18) w21 fun _ w24 =>
  xP Tryd.prog (sNil a0) fun v25_25 =>
  xP Tryd.prog (sFA 63 v25_25 2) fun v26_26 =>
  xE Tryd.prog (sStore 61 v26_26 v22_20) w24 fun _ w27 =>
  R (.returned (.tuple #[])) w27)
theorem C_staveref1_Disk_blank {a0 : Value} {w : World} {R : Ending → World → Prop} (h : S_staveref1_Disk_blank a0 w R) : Calls Tryd.prog 44 #[a0] w R :=
  funcVC_sound (an := A_staveref1_Disk_blank) (args := [a0]) (k := 1) Tryd.func44 (by kernel_rfl) rfl
    (Eq.mp (show S_staveref1_Disk_blank a0 w R = funcVC Tryd.prog Tryd.f44 A_staveref1_Disk_blank [a0] w R by kernel_rfl) h)

/-- errors.as -/
def A_errors_as : Ann := (.seq .nil (.one (.loop [0] (.one (.seq .nil (.seq (.seq .nil (.join [35] .nil .nil)) (.seq .nil (.one (.seq .nil (.seq .nil (.seq .nil (.seq (.seq .nil (.seq (.seq .nil (.one (.loop [50] (.seq .nil (.seq .nil (.join [] .nil .nil)))))) .nil)) .nil))))))))))))
def S_errors_as (a0 : Value) (a1 : Value) (a2 : Value) (a3 : Value) (w : World) (R : Ending → World → Prop) : Prop :=
  xE Tryd.prog (sBox 85 a2) w fun v6_1 w2 =>
  xLoop [a0] w2 fun J3 vs4 _ w6 =>
    xE Tryd.prog (sCall 49 #[(vs4.getD 0 undef)]) w6 fun v17_7 w8 =>
    xE Tryd.prog (sInvoke "AssignableTo" #[v17_7, a3]) w8 fun v19_9 w10 =>
    xIf v19_9 (
      xR Tryd.prog (sLoad 85 v6_1) w10 fun v20_11 =>
      xE Tryd.prog (sCall 51 #[v20_11]) w10 fun v21_12 w13 =>
      xE Tryd.prog (sCall 45 #[(vs4.getD 0 undef)]) w13 fun v23_14 w15 =>
      xE Tryd.prog (sCall 52 #[v21_12, v23_14]) w15 fun _ w17 =>
      R (.returned (.bool true)) w17) (
      xP Tryd.prog (sAssert (vs4.getD 0 undef) 24 101 true) fun v27_18 =>
    xP Tryd.prog (sExtract v27_18 0) fun v28_19 =>
    xP Tryd.prog (sExtract v27_18 1) fun v29_20 =>
    xJoin (fun J21 =>
      xIf v29_20 (
      xE Tryd.prog (sInvoke "As" #[v28_19, a1]) w10 fun v34_22 w23 =>
      J21 [v34_22] w23) (
      J21 [(.bool false)] w10)) fun vs24 _ w26 =>
    xIf (vs24.getD 0 undef) (
      R (.returned (.bool true)) w26) (
      xP Tryd.prog (sAssert (vs4.getD 0 undef) 24 104 true) fun v37_27 =>
    xP Tryd.prog (sExtract v37_27 1) fun v38_28 =>
    xP Tryd.prog (sExtract v37_27 0) fun v39_29 =>
    xIf v38_28 (
      xE Tryd.prog (sInvoke "Unwrap" #[v39_29]) w26 fun v41_30 w31 =>
      xR Tryd.prog (sEq .eql 24 true v41_30 (.nilIface)) w31 fun v43_32 =>
      xIf v43_32 (
        R (.returned (.bool false)) w31) (
        J3 [v41_30] w31)) (
      xP Tryd.prog (sAssert (vs4.getD 0 undef) 24 105 true) fun v44_33 =>
      xP Tryd.prog (sExtract v44_33 1) fun v45_34 =>
      xP Tryd.prog (sExtract v44_33 0) fun v46_35 =>
      xIf v45_34 (
        xE Tryd.prog (sInvoke "Unwrap" #[v46_35]) w26 fun v48_36 w37 =>
        xP Tryd.prog (sB .len #[106] #[v48_36]) fun v49_38 =>
        xLoop [(.int .i64 0)] w37 fun J39 vs40 _ w42 =>
          xP Tryd.prog (sBin .lss 3 (vs40.getD 0 undef) v49_38) fun v51_43 =>
          xIf v51_43 (
            xJoin (fun J44 =>
            xP Tryd.prog (sIA 106 v48_36 (vs40.getD 0 undef)) fun v52_45 =>
            xR Tryd.prog (sLoad 24 v52_45) w42 fun v53_46 =>
            xR Tryd.prog (sEq .eql 24 true v53_46 (.nilIface)) w42 fun v55_47 =>
            xIf v55_47 (
              J44 [] w42) (
              xR Tryd.prog (sLoad 85 v6_1) w42 fun v58_48 =>
            xE Tryd.prog (sCall 48 #[v53_46, a1, v58_48, a3]) w42 fun v60_49 w50 =>
            xIf v60_49 (
              R (.returned (.bool true)) w50) (
              J44 [] w50))) fun _ _ w53 =>
          xP Tryd.prog (sBin .add 3 (vs40.getD 0 undef) (.int .i64 1)) fun v61_54 =>
          J39 [v61_54] w53) (
            R (.returned (.bool false)) w42)) (
        R (.returned (.bool false)) w26))))
theorem C_errors_as {a0 : Value} {a1 : Value} {a2 : Value} {a3 : Value} {w : World} {R : Ending → World → Prop} (h : S_errors_as a0 a1 a2 a3 w R) : Calls Tryd.prog 48 #[a0, a1, a2, a3] w R :=
  funcVC_sound (an := A_errors_as) (args := [a0, a1, a2, a3]) (k := 4) Tryd.func48 (by kernel_rfl) rfl
    (Eq.mp (show S_errors_as a0 a1 a2 a3 w R = funcVC Tryd.prog Tryd.f48 A_errors_as [a0, a1, a2, a3] w R by kernel_rfl) h)

/-- errors.is -/
def A_errors_is : Ann := (.seq .nil (.one (.loop [0] (.one (.seq (.join [19] .nil .nil) (.seq (.seq .nil (.join [30] .nil .nil)) (.seq .nil (.one (.seq .nil (.seq .nil (.seq .nil (.seq (.seq .nil (.seq (.seq .nil (.one (.loop [45] .nil))) .nil)) .nil))))))))))))
def S_errors_is (a0 : Value) (a1 : Value) (a2 : Value) (w : World) (R : Ending → World → Prop) : Prop :=
  xLoop [a0] w fun J1 vs2 _ w4 =>
    xJoin (fun J5 =>
      xIf a2 (
      xR Tryd.prog (sEq .eql 24 false (vs2.getD 0 undef) a1) w4 fun v18_6 =>
      J5 [v18_6] w4) (
      J5 [(.bool false)] w4)) fun vs7 _ w9 =>
    xIf (vs7.getD 0 undef) (
      R (.returned (.bool true)) w9) (
      xP Tryd.prog (sAssert (vs2.getD 0 undef) 24 108 true) fun v22_10 =>
    xP Tryd.prog (sExtract v22_10 0) fun v23_11 =>
    xP Tryd.prog (sExtract v22_10 1) fun v24_12 =>
    xJoin (fun J13 =>
      xIf v24_12 (
      xE Tryd.prog (sInvoke "Is" #[v23_11, a1]) w9 fun v29_14 w15 =>
      J13 [v29_14] w15) (
      J13 [(.bool false)] w9)) fun vs16 _ w18 =>
    xIf (vs16.getD 0 undef) (
      R (.returned (.bool true)) w18) (
      xP Tryd.prog (sAssert (vs2.getD 0 undef) 24 104 true) fun v32_19 =>
    xP Tryd.prog (sExtract v32_19 1) fun v33_20 =>
    xP Tryd.prog (sExtract v32_19 0) fun v34_21 =>
    xIf v33_20 (
      xE Tryd.prog (sInvoke "Unwrap" #[v34_21]) w18 fun v36_22 w23 =>
      xR Tryd.prog (sEq .eql 24 true v36_22 (.nilIface)) w23 fun v38_24 =>
      xIf v38_24 (
        R (.returned (.bool false)) w23) (
        J1 [v36_22] w23)) (
      xP Tryd.prog (sAssert (vs2.getD 0 undef) 24 105 true) fun v39_25 =>
      xP Tryd.prog (sExtract v39_25 1) fun v40_26 =>
      xP Tryd.prog (sExtract v39_25 0) fun v41_27 =>
      xIf v40_26 (
        xE Tryd.prog (sInvoke "Unwrap" #[v41_27]) w18 fun v43_28 w29 =>
        xP Tryd.prog (sB .len #[106] #[v43_28]) fun v44_30 =>
        xLoop [(.int .i64 0)] w29 fun J31 vs32 _ w34 =>
          xP Tryd.prog (sBin .lss 3 (vs32.getD 0 undef) v44_30) fun v46_35 =>
          xIf v46_35 (
            xP Tryd.prog (sIA 106 v43_28 (vs32.getD 0 undef)) fun v47_36 =>
          xR Tryd.prog (sLoad 24 v47_36) w34 fun v48_37 =>
          xE Tryd.prog (sCall 50 #[v48_37, a1, a2]) w34 fun v52_38 w39 =>
          xIf v52_38 (
            R (.returned (.bool true)) w39) (
            xP Tryd.prog (sBin .add 3 (vs32.getD 0 undef) (.int .i64 1)) fun v53_40 =>
          J31 [v53_40] w39)) (
            R (.returned (.bool false)) w34)) (
        R (.returned (.bool false)) w18))))
theorem C_errors_is {a0 : Value} {a1 : Value} {a2 : Value} {w : World} {R : Ending → World → Prop} (h : S_errors_is a0 a1 a2 w R) : Calls Tryd.prog 50 #[a0, a1, a2] w R :=
  funcVC_sound (an := A_errors_is) (args := [a0, a1, a2]) (k := 3) Tryd.func50 (by kernel_rfl) rfl
    (Eq.mp (show S_errors_is a0 a1 a2 w R = funcVC Tryd.prog Tryd.f50 A_errors_is [a0, a1, a2] w R by kernel_rfl) h)

/-- (stave/api.Fault).Unwrap -/
def A_api_Fault_Unwrap : Ann := .nil
def S_api_Fault_Unwrap (a0 : Value) (w : World) (R : Ending → World → Prop) : Prop :=
  xE Tryd.prog (sBox 81 a0) w fun v1_1 w2 =>
  xP Tryd.prog (sFA 81 v1_1 2) fun v3_3 =>
  xR Tryd.prog (sLoad 24 v3_3) w2 fun v4_4 =>
  R (.returned v4_4) w2
theorem C_api_Fault_Unwrap {a0 : Value} {w : World} {R : Ending → World → Prop} (h : S_api_Fault_Unwrap a0 w R) : Calls Tryd.prog 72 #[a0] w R :=
  funcVC_sound (an := A_api_Fault_Unwrap) (args := [a0]) (k := 1) Tryd.func72 (by kernel_rfl) rfl
    (Eq.mp (show S_api_Fault_Unwrap a0 w R = funcVC Tryd.prog Tryd.f72 A_api_Fault_Unwrap [a0] w R by kernel_rfl) h)

/-- gosem.cut.vars -/
def A_gosem_cut_vars : Ann := .nil
def S_gosem_cut_vars (w : World) (R : Ending → World → Prop) : Prop :=
  xP Tryd.prog (sIface 138 (.pointer none)) fun v0_1 =>
  xE Tryd.prog (sCall 49 #[v0_1]) w fun v1_2 w3 =>
  xE Tryd.prog (sInvoke "Elem" #[v1_2]) w3 fun v2_4 w5 =>
  xE Tryd.prog (sStore 88 (.pointer (some ⟨0, 0, none⟩)) v2_4) w5 fun _ w6 =>
  R (.returned (.tuple #[])) w6
theorem C_gosem_cut_vars {w : World} {R : Ending → World → Prop} (h : S_gosem_cut_vars  w R) : Calls Tryd.prog 91 #[] w R :=
  funcVC_sound (an := A_gosem_cut_vars) (args := []) (k := 0) Tryd.func91 (by kernel_rfl) rfl
    (Eq.mp (show S_gosem_cut_vars  w R = funcVC Tryd.prog Tryd.f91 A_gosem_cut_vars [] w R by kernel_rfl) h)

end Go.Proofs.YthmjjdfjegjfeaaDoor
