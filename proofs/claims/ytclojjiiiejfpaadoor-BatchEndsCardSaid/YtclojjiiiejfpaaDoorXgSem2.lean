import Derived.Test.YtclojjiiiejfpaaDoorXB
import Derived.Test.YtclojjiiiejfpaaDoorRows
namespace Go.Proofs.YtclojjiiiejfpaaDoor
set_option linter.unusedSimpArgs false
set_option linter.unusedVariables false
open Go.X
set_option maxRecDepth 100000

/-- stave/stavebook.Roomy[byte] -/
def A_stavebook_Roomy_byte : Ann := (.seq .nil (.seq .nil (.seq .nil (.seq (.seq .nil (.one (.loop [6] .nil))) .nil))))
def S_stavebook_Roomy_byte (a0 : Value) (a1 : Value) (w : World) (R : Ending → World → Prop) : Prop :=
  xP Tryd.prog (sB .len #[25] #[a0]) fun v8_1 =>
  xP Tryd.prog (sBin .add 3 v8_1 (.int .i64 80)) fun v9_2 =>
  xE Tryd.prog (sMakeSlice 25 v9_2 v9_2) w fun v10_3 w4 =>
  xE Tryd.prog (sB .copy #[25, 25] #[v10_3, a0]) w4 fun _ w6 =>
  xP Tryd.prog (sB .len #[25] #[a0]) fun v15_7 =>
  xLoop [v15_7] w6 fun J8 vs9 _ w11 =>
    xP Tryd.prog (sB .len #[25] #[v10_3]) fun v18_12 =>
    xP Tryd.prog (sBin .lss 3 (vs9.getD 0 undef) v18_12) fun v19_13 =>
    xIf v19_13 (
      xP Tryd.prog (sIA 25 v10_3 (vs9.getD 0 undef)) fun v25_14 =>
    xE Tryd.prog (sStore 5 v25_14 a1) w11 fun _ w15 =>
    xP Tryd.prog (sBin .add 3 (vs9.getD 0 undef) (.int .i64 1)) fun v21_16 =>
    J8 [v21_16] w15) (
      R (.returned v10_3) w11)
theorem C_stavebook_Roomy_byte {a0 : Value} {a1 : Value} {w : World} {R : Ending → World → Prop} (h : S_stavebook_Roomy_byte a0 a1 w R) : Calls Tryd.prog 27 #[a0, a1] w R :=
  funcVC_sound (an := A_stavebook_Roomy_byte) (args := [a0, a1]) (k := 2) Tryd.func27 (by kernel_rfl) rfl
    (Eq.mp (show S_stavebook_Roomy_byte a0 a1 w R = funcVC Tryd.prog Tryd.f27 A_stavebook_Roomy_byte [a0, a1] w R by kernel_rfl) h)

/-- stave/staveref1.GetFields -/
def A_staveref1_GetFields : Ann := (.seq .nil (.seq .nil (.seq .nil (.seq .nil (.seq (.seq .nil (.one (.loop [8, 9, 26] (.seq .nil (.seq .nil (.seq (.one (.seq .nil (.seq .nil (.seq .nil (.join [13, 14] (.seq .nil (.one (.seq .nil (.seq (.seq .nil (.seq .nil (.seq (.join [62] .nil .nil) (.draw (.pre [0, 1, 2, 3, 4, 5, 6, 7, 8] .nil) [0, 1, 0, 0, 8, 28, 3, 67, 255])))) (.seq .nil (.seq .nil (.seq .nil (.seq (.seq .nil (.seq .nil (.seq (.join [107] .nil .nil) (.seq .nil (.seq .nil (.one (.loop [13, 14, 17] (.seq (.join [117] .nil .nil) .nil)))))))) .nil)))))))) .nil))))) .nil)))))) .nil)))))
def S_staveref1_GetFields (a0 : Value) (a1 : Value) (w : World) (R : Ending → World → Prop) : Prop :=
  xE Tryd.prog (sCall 49 #[a0]) w fun v20_1 w2 =>
  xP Tryd.prog (sBin .geq 3 v20_1 (.int .i64 0)) fun v22_3 =>
  xIf v22_3 (
    R (.returned (.tuple #[(.slice none 0 0), (.int .i64 1), v20_1])) w2) (
    xP Tryd.prog (sB .len #[24] #[a0]) fun v25_4 =>
  xLoop [(.slice none 0 0), (.int .i64 0), (.int .i64 0)] w2 fun J5 vs6 _ w8 =>
    xP Tryd.prog (sBin .lss 3 (vs6.getD 2 undef) v25_4) fun v27_9 =>
    xIf v27_9 (
      xP Tryd.prog (sIA 24 a0 (vs6.getD 2 undef)) fun v28_10 =>
    xR Tryd.prog (sLoad 23 v28_10) w8 fun v29_11 =>
    xE Tryd.prog (sAlloc 23) w8 fun v11_12 w13 =>
    xE Tryd.prog (sStore 23 v11_12 v29_11) w13 fun _ w14 =>
    xE Tryd.prog (sAlloc 32) w14 fun v12_15 w16 =>
    xJoin (fun J17 =>
      xP Tryd.prog (sFA 23 v11_12 0) fun v31_18 =>
      xR Tryd.prog (sLoad 3 v31_18) w16 fun v32_19 =>
      xR Tryd.prog (sEq .eql 3 true v32_19 (.int .i64 1)) w16 fun v34_20 =>
      xIf v34_20 (
        xP Tryd.prog (sB .len #[25] #[a1]) fun v36_21 =>
        xP Tryd.prog (sBin .sub 3 v36_21 (vs6.getD 1 undef)) fun v38_22 =>
        xP Tryd.prog (sFA 23 v11_12 1) fun v39_23 =>
        xR Tryd.prog (sLoad 3 v39_23) w16 fun v40_24 =>
        xP Tryd.prog (sBin .lss 3 v38_22 v40_24) fun v41_25 =>
        xIf v41_25 (
          R (.returned (.tuple #[(.slice none 0 0), (.int .i64 3), (vs6.getD 1 undef)])) w16) (
          xP Tryd.prog (sFA 23 v11_12 1) fun v46_26 =>
        xR Tryd.prog (sLoad 3 v46_26) w16 fun v47_27 =>
        xP Tryd.prog (sBin .add 3 (vs6.getD 1 undef) v47_27) fun v48_28 =>
        xP Tryd.prog (sSlice 25 a1 (some (vs6.getD 1 undef)) (some v48_28) none) fun v49_29 =>
        xE Tryd.prog (sCall 53 #[v49_29]) w16 fun v50_30 w31 =>
        xJoin (fun J32 =>
          xP Tryd.prog (sFA 23 v11_12 2) fun v52_33 =>
          xR Tryd.prog (sLoad 3 v52_33) w31 fun v53_34 =>
          xP Tryd.prog (sConv 3 92 v53_34) fun v54_35 =>
          xP Tryd.prog (sBin .lss 92 v50_30 v54_35) fun v55_36 =>
          xIf v55_36 (
          J32 [(.bool true)] w31) (
          xP Tryd.prog (sFA 23 v11_12 3) fun v58_37 =>
          xR Tryd.prog (sLoad 3 v58_37) w31 fun v59_38 =>
          xP Tryd.prog (sConv 3 92 v59_38) fun v60_39 =>
          xP Tryd.prog (sBin .gtr 92 v50_30 v60_39) fun v61_40 =>
          J32 [v61_40] w31)) fun vs41 _ w43 =>
        xIf (vs41.getD 0 undef) (
          R (.returned (.tuple #[(.slice none 0 0), (.int .i64 2), (vs6.getD 1 undef)])) w43) (
          xP Tryd.prog (sConv 92 3 v50_30) fun v65_44 =>
        xP Tryd.prog (sFA 23 v11_12 1) fun v67_45 =>
        xR Tryd.prog (sLoad 3 v67_45) (w43.drew) fun v68_46 =>
        xP Tryd.prog (sBin .add 3 (vs6.getD 1 undef) v68_46) fun v69_47 =>
        xP Tryd.prog (sFA 32 v12_15 0) fun v70_48 =>
        xE Tryd.prog (sStore 3 v70_48 v65_44) (w43.drew) fun _ w49 =>
        xStill Tryd.prog (sLoad 3 v67_45) v68_46 w49 <|
        J17 [v69_47, (.int .i64 0)] w49))) (
        xR Tryd.prog (sEq .eql 3 true v32_19 (.int .i64 2)) w16 fun v72_50 =>
        xIf v72_50 (
          xP Tryd.prog (sFA 23 v11_12 2) fun v76_51 =>
          xR Tryd.prog (sLoad 3 v76_51) w16 fun v77_52 =>
          xP Tryd.prog (sFA 23 v11_12 3) fun v78_53 =>
          xR Tryd.prog (sLoad 3 v78_53) w16 fun v79_54 =>
          xE Tryd.prog (sCall 54 #[a1, (vs6.getD 1 undef), v77_52, v79_54]) w16 fun v80_55 w56 =>
          xP Tryd.prog (sExtract v80_55 0) fun v81_57 =>
          xP Tryd.prog (sExtract v80_55 1) fun v82_58 =>
          xP Tryd.prog (sExtract v80_55 2) fun v83_59 =>
          xP Tryd.prog (sFA 32 v12_15 1) fun v84_60 =>
          xE Tryd.prog (sStore 9 v84_60 v81_57) w56 fun _ w61 =>
          J17 [v82_58, v83_59] w61) (
          xR Tryd.prog (sEq .eql 3 true v32_19 (.int .i64 3)) w16 fun v86_62 =>
          xIf v86_62 (
            xP Tryd.prog (sB .len #[25] #[a1]) fun v88_63 =>
            xP Tryd.prog (sBin .sub 3 v88_63 (vs6.getD 1 undef)) fun v90_64 =>
            xP Tryd.prog (sBin .lss 3 v90_64 (.int .i64 1)) fun v91_65 =>
            xIf v91_65 (
              R (.returned (.tuple #[(.slice none 0 0), (.int .i64 3), (vs6.getD 1 undef)])) w16) (
              xP Tryd.prog (sIA 25 a1 (vs6.getD 1 undef)) fun v95_66 =>
            xR Tryd.prog (sLoad 5 v95_66) w16 fun v96_67 =>
            xP Tryd.prog (sConv 5 3 v96_67) fun v97_68 =>
            xJoin (fun J69 =>
              xP Tryd.prog (sFA 23 v11_12 2) fun v99_70 =>
              xR Tryd.prog (sLoad 3 v99_70) w16 fun v100_71 =>
              xP Tryd.prog (sBin .lss 3 v97_68 v100_71) fun v101_72 =>
              xIf v101_72 (
              J69 [(.bool true)] w16) (
              xP Tryd.prog (sFA 23 v11_12 3) fun v104_73 =>
              xR Tryd.prog (sLoad 3 v104_73) w16 fun v105_74 =>
              xP Tryd.prog (sBin .gtr 3 v97_68 v105_74) fun v106_75 =>
              J69 [v106_75] w16)) fun vs76 _ w78 =>
            xIf (vs76.getD 0 undef) (
              R (.returned (.tuple #[(.slice none 0 0), (.int .i64 2), (vs6.getD 1 undef)])) w78) (
              xP Tryd.prog (sBin .add 3 (vs6.getD 1 undef) (.int .i64 1)) fun v110_79 =>
            xLoop [v110_79, (.int .i64 0), (.int .i64 0)] w78 fun J80 vs81 _ w83 =>
              xJoin (fun J84 =>
                xP Tryd.prog (sBin .lss 3 (vs81.getD 2 undef) v97_68) fun v113_85 =>
                xIf v113_85 (
                xR Tryd.prog (sEq .eql 3 true (vs81.getD 1 undef) (.int .i64 0)) w83 fun v116_86 =>
                J84 [v116_86] w83) (
                J84 [(.bool false)] w83)) fun vs87 _ w89 =>
              xIf (vs87.getD 0 undef) (
                xP Tryd.prog (sFA 23 v11_12 4) fun v123_90 =>
              xR Tryd.prog (sLoad 3 v123_90) w89 fun v124_91 =>
              xE Tryd.prog (sCall 54 #[a1, (vs81.getD 0 undef), (.int .i64 0), v124_91]) w89 fun v125_92 w93 =>
              xP Tryd.prog (sExtract v125_92 0) fun v126_94 =>
              xP Tryd.prog (sExtract v125_92 1) fun v127_95 =>
              xP Tryd.prog (sExtract v125_92 2) fun v128_96 =>
              xP Tryd.prog (sFA 32 v12_15 2) fun v129_97 =>
              xR Tryd.prog (sLoad 30 v129_97) w93 fun v130_98 =>
              xE Tryd.prog (sBuildSlice 30 1 #[(0, v126_94)]) w93 fun v132_99 w100 =>
              xE Tryd.prog (sB .append #[30, 30] #[v130_98, v132_99]) w100 fun v133_101 w102 =>
              xP Tryd.prog (sFA 32 v12_15 2) fun v134_103 =>
              xE Tryd.prog (sStore 30 v134_103 v133_101) w102 fun _ w104 =>
              xP Tryd.prog (sBin .add 3 (vs81.getD 2 undef) (.int .i64 1)) fun v119_105 =>
              J80 [v127_95, v128_96, v119_105] w104) (
                J17 [(vs81.getD 0 undef), (vs81.getD 1 undef)] w89)))) (
            J17 [(vs6.getD 1 undef), (.int .i64 0)] w16)))) fun vs106 _ w108 =>
    xR Tryd.prog (sEq .neq 3 true (vs106.getD 1 undef) (.int .i64 0)) w108 fun v136_109 =>
    xIf v136_109 (
      R (.returned (.tuple #[(.slice none 0 0), (vs106.getD 1 undef), (vs6.getD 1 undef)])) w108) (
      xR Tryd.prog (sLoad 32 v12_15) w108 fun v140_110 =>
    xE Tryd.prog (sBuildSlice 33 1 #[(0, v140_110)]) w108 fun v141_111 w112 =>
    xE Tryd.prog (sB .append #[33, 33] #[(vs6.getD 0 undef), v141_111]) w112 fun v142_113 w114 =>
    xP Tryd.prog (sBin .add 3 (vs6.getD 2 undef) (.int .i64 1)) fun v144_115 =>
    J5 [v142_113, (vs106.getD 0 undef), v144_115] w114)) (
      xP Tryd.prog (sB .len #[25] #[a1]) fun v147_116 =>
  xP Tryd.prog (sBin .lss 3 (vs6.getD 1 undef) v147_116) fun v148_117 =>
  xIf v148_117 (
    R (.returned (.tuple #[(.slice none 0 0), (.int .i64 4), (vs6.getD 1 undef)])) w8) (
    R (.returned (.tuple #[(vs6.getD 0 undef), (.int .i64 0), (.int .i64 0)])) w8)))
theorem C_staveref1_GetFields {a0 : Value} {a1 : Value} {w : World} {R : Ending → World → Prop} (h : S_staveref1_GetFields a0 a1 w R) : Calls Tryd.prog 28 #[a0, a1] w R :=
  funcVC_sound (an := A_staveref1_GetFields) (args := [a0, a1]) (k := 2) Tryd.func28 (by kernel_rfl) rfl
    (Eq.mp (show S_staveref1_GetFields a0 a1 w R = funcVC Tryd.prog Tryd.f28 A_staveref1_GetFields [a0, a1] w R by kernel_rfl) h)

/-- stave/stavelaw2.same -/
def A_stavelaw2_same : Ann := (.seq .nil (.seq .nil (.seq (.seq .nil (.one (.loop [13] (.seq .nil (.seq .nil (.seq (.one (.seq .nil (.join [53] (.draw (.pre [0, 1, 2, 3, 4, 5, 6, 7, 8, 9, 10, 11, 12, 13, 14, 15, 16, 17, 18, 19, 20, 21, 22, 23, 24, 25, 26, 27, 28, 29, 30, 31, 32, 33, 34, 35, 36, 37] .nil) [0, 0, 3, 7, 15, 0, 0, 96, 224, 480, 1023, 2047, 4095, 4095, 16383, 32767, 65535, 4095, 4095, 397311, 921599, 1970175, 4194303, 8388607, 16777215, 33554431, 33554431, 134217727, 268435455, 536870911, 33554431, 33554431, 3254779903, 7549747199, 16139681791, 34359738367, 68719476735, 137438953471]) .nil))) .nil)))))) .nil)))
def S_stavelaw2_same (a0 : Value) (a1 : Value) (w : World) (R : Ending → World → Prop) : Prop :=
  xP Tryd.prog (sB .len #[33] #[a0]) fun v7_1 =>
  xP Tryd.prog (sB .len #[33] #[a1]) fun v9_2 =>
  xR Tryd.prog (sEq .neq 3 false v7_1 v9_2) w fun v10_3 =>
  xIf v10_3 (
    R (.returned (.bool false)) w) (
    xP Tryd.prog (sB .len #[33] #[a0]) fun v12_4 =>
  xLoop [(.int .i64 0)] w fun J5 vs6 _ w8 =>
    xP Tryd.prog (sBin .lss 3 (vs6.getD 0 undef) v12_4) fun v14_9 =>
    xIf v14_9 (
      xJoin (fun J10 =>
      xP Tryd.prog (sIA 33 a0 (vs6.getD 0 undef)) fun v18_11 =>
      xP Tryd.prog (sFA 32 v18_11 0) fun v19_12 =>
      xR Tryd.prog (sLoad 3 v19_12) (w8.drew) fun v20_13 =>
      xP Tryd.prog (sIA 33 a1 (vs6.getD 0 undef)) fun v23_14 =>
      xP Tryd.prog (sFA 32 v23_14 0) fun v24_15 =>
      xR Tryd.prog (sLoad 3 v24_15) (w8.drew) fun v25_16 =>
      xR Tryd.prog (sEq .neq 3 false v20_13 v25_16) (w8.drew) fun v26_17 =>
      xIf v26_17 (
      J10 [(.bool true)] (w8.drew)) (
      xP Tryd.prog (sIA 33 a0 (vs6.getD 0 undef)) fun v30_18 =>
      xP Tryd.prog (sFA 32 v30_18 1) fun v31_19 =>
      xR Tryd.prog (sLoad 9 v31_19) (w8.drew) fun v32_20 =>
      xP Tryd.prog (sIA 33 a1 (vs6.getD 0 undef)) fun v35_21 =>
      xP Tryd.prog (sFA 32 v35_21 1) fun v36_22 =>
      xR Tryd.prog (sLoad 9 v36_22) (w8.drew) fun v37_23 =>
      xR Tryd.prog (sEq .neq 9 false v32_20 v37_23) (w8.drew) fun v38_24 =>
      xIf v38_24 (
      J10 [(.bool true)] (w8.drew)) (
      xP Tryd.prog (sIA 33 a0 (vs6.getD 0 undef)) fun v43_25 =>
      xP Tryd.prog (sFA 32 v43_25 2) fun v44_26 =>
      xR Tryd.prog (sLoad 30 v44_26) (w8.drew) fun v45_27 =>
      xP Tryd.prog (sIA 33 a1 (vs6.getD 0 undef)) fun v48_28 =>
      xP Tryd.prog (sFA 32 v48_28 2) fun v49_29 =>
      xR Tryd.prog (sLoad 30 v49_29) (w8.drew) fun v50_30 =>
      xE Tryd.prog (sCall 55 #[v45_27, v50_30]) (w8.drew) fun v51_31 w32 =>
      xP Tryd.prog (sUn .not v51_31) fun v52_33 =>
      J10 [v52_33] w32))) fun vs34 _ w36 =>
    xIf (vs34.getD 0 undef) (
      R (.returned (.bool false)) w36) (
      xP Tryd.prog (sBin .add 3 (vs6.getD 0 undef) (.int .i64 1)) fun v54_37 =>
    J5 [v54_37] w36)) (
      R (.returned (.bool true)) w8))
theorem C_stavelaw2_same {a0 : Value} {a1 : Value} {w : World} {R : Ending → World → Prop} (h : S_stavelaw2_same a0 a1 w R) : Calls Tryd.prog 29 #[a0, a1] w R :=
  funcVC_sound (an := A_stavelaw2_same) (args := [a0, a1]) (k := 2) Tryd.func29 (by kernel_rfl) rfl
    (Eq.mp (show S_stavelaw2_same a0 a1 w R = funcVC Tryd.prog Tryd.f29 A_stavelaw2_same [a0, a1] w R by kernel_rfl) h)

/-- stave/stavebook.Intact[byte] -/
def A_stavebook_Intact_byte : Ann := (.seq .nil (.seq (.join [22] .nil .nil) (.seq (.seq .nil (.one (.loop [7] .nil))) .nil)))
def S_stavebook_Intact_byte (a0 : Value) (a1 : Value) (a2 : Value) (w : World) (R : Ending → World → Prop) : Prop :=
  xJoin (fun J1 =>
    xP Tryd.prog (sB .len #[25] #[a0]) fun v9_2 =>
    xP Tryd.prog (sB .len #[25] #[a1]) fun v11_3 =>
    xP Tryd.prog (sBin .add 3 v11_3 (.int .i64 80)) fun v12_4 =>
    xR Tryd.prog (sEq .neq 3 false v9_2 v12_4) w fun v13_5 =>
    xIf v13_5 (
    J1 [(.bool true)] w) (
    xP Tryd.prog (sB .len #[25] #[a1]) fun v17_6 =>
    xP Tryd.prog (sSlice 25 a0 none (some v17_6) none) fun v18_7 =>
    xE Tryd.prog (sCall 17 #[v18_7, a1]) w fun v20_8 w9 =>
    xP Tryd.prog (sUn .not v20_8) fun v21_10 =>
    J1 [v21_10] w9)) fun vs11 _ w13 =>
  xIf (vs11.getD 0 undef) (
    R (.returned (.bool false)) w13) (
    xP Tryd.prog (sB .len #[25] #[a1]) fun v24_14 =>
  xLoop [v24_14] w13 fun J15 vs16 _ w18 =>
    xP Tryd.prog (sB .len #[25] #[a0]) fun v27_19 =>
    xP Tryd.prog (sBin .lss 3 (vs16.getD 0 undef) v27_19) fun v28_20 =>
    xIf v28_20 (
      xP Tryd.prog (sIA 25 a0 (vs16.getD 0 undef)) fun v33_21 =>
    xR Tryd.prog (sLoad 5 v33_21) w18 fun v34_22 =>
    xR Tryd.prog (sEq .neq 5 false v34_22 a2) w18 fun v36_23 =>
    xIf v36_23 (
      R (.returned (.bool false)) w18) (
      xP Tryd.prog (sBin .add 3 (vs16.getD 0 undef) (.int .i64 1)) fun v30_24 =>
    J15 [v30_24] w18)) (
      R (.returned (.bool true)) w18))
theorem C_stavebook_Intact_byte {a0 : Value} {a1 : Value} {a2 : Value} {w : World} {R : Ending → World → Prop} (h : S_stavebook_Intact_byte a0 a1 a2 w R) : Calls Tryd.prog 30 #[a0, a1, a2] w R :=
  funcVC_sound (an := A_stavebook_Intact_byte) (args := [a0, a1, a2]) (k := 3) Tryd.func30 (by kernel_rfl) rfl
    (Eq.mp (show S_stavebook_Intact_byte a0 a1 a2 w R = funcVC Tryd.prog Tryd.f30 A_stavebook_Intact_byte [a0, a1, a2] w R by kernel_rfl) h)

/-- stave/batch.Put -/
def A_batch_Put : Ann := .nil
def S_batch_Put (a0 : Value) (w : World) (R : Ending → World → Prop) : Prop :=
  xE Tryd.prog (sBox 63 a0) w fun v1_1 w2 =>
  xR Tryd.prog (sLoad 63 v1_1) w2 fun v5_3 =>
  xE Tryd.prog (sCall 35 #[v5_3]) w2 fun v6_4 w5 =>
  xP Tryd.prog (sUn .not v6_4) fun v7_6 =>
  xIf v7_6 (
    R (.returned (.slice none 0 0)) w5) (
    xR Tryd.prog (sLoad 63 v1_1) w5 fun v9_7 =>
  xE Tryd.prog (sCall 56 #[v9_7]) w5 fun v10_8 w9 =>
  xP Tryd.prog (sExtract v10_8 0) fun v11_10 =>
  xP Tryd.prog (sExtract v10_8 1) fun _ =>
  R (.returned v11_10) w9)
theorem C_batch_Put {a0 : Value} {w : World} {R : Ending → World → Prop} (h : S_batch_Put a0 w R) : Calls Tryd.prog 31 #[a0] w R :=
  funcVC_sound (an := A_batch_Put) (args := [a0]) (k := 1) Tryd.func31 (by kernel_rfl) rfl
    (Eq.mp (show S_batch_Put a0 w R = funcVC Tryd.prog Tryd.f31 A_batch_Put [a0] w R by kernel_rfl) h)

/-- stave/batch.Get -/
def A_batch_Get : Ann := (.seq .nil (.seq .nil (.seq .nil (.seq (.draw (.pre [0, 1, 2, 3, 4, 5, 6, 7, 8, 9, 10, 11, 12, 13, 14, 15, 16, 17, 18] .nil) [0, 1, 3, 7, 0, 16, 48, 112, 0, 256, 768, 1792, 0, 4096, 12288, 28672, 65535, 0, 262143]) .nil))))
def S_batch_Get (a0 : Value) (w : World) (R : Ending → World → Prop) : Prop :=
  xE Tryd.prog (sAlloc 63) w fun v2_1 w2 =>
  xE Tryd.prog (sCall 57 #[]) w2 fun v8_3 w4 =>
  xE Tryd.prog (sCall 18 #[v8_3, a0]) w4 fun v10_5 w6 =>
  xP Tryd.prog (sExtract v10_5 0) fun v11_7 =>
  xP Tryd.prog (sExtract v10_5 1) fun v12_8 =>
  xR Tryd.prog (sEq .neq 27 true v12_8 (.nilIface)) w6 fun v14_9 =>
  xIf v14_9 (
    xP Tryd.prog (sBuild 63 #[]) fun v15_10 =>
    xE Tryd.prog (sCall 41 #[(.string (ByteArray.mk #[98, 97, 116, 99, 104, 46, 71, 101, 116])), (.int .i64 0), v12_8]) w6 fun v17_11 w12 =>
    xE Tryd.prog (sStore 63 v2_1 v15_10) w12 fun _ w13 =>
    xR Tryd.prog (sLoad 63 v2_1) w13 fun r14 => R (.returned (.tuple #[r14, v17_11])) w13) (
    xP Tryd.prog (sIA 33 v11_7 (.int .i64 0)) fun v19_15 =>
  xP Tryd.prog (sFA 32 v19_15 0) fun v20_16 =>
  xR Tryd.prog (sLoad 3 v20_16) (w6.drew) fun v21_17 =>
  xP Tryd.prog (sIA 33 v11_7 (.int .i64 1)) fun v23_18 =>
  xP Tryd.prog (sFA 32 v23_18 0) fun v24_19 =>
  xR Tryd.prog (sLoad 3 v24_19) (w6.drew) fun v25_20 =>
  xP Tryd.prog (sIA 33 v11_7 (.int .i64 2)) fun v27_21 =>
  xP Tryd.prog (sFA 32 v27_21 0) fun v28_22 =>
  xR Tryd.prog (sLoad 3 v28_22) (w6.drew) fun v29_23 =>
  xP Tryd.prog (sIA 33 v11_7 (.int .i64 3)) fun v31_24 =>
  xP Tryd.prog (sFA 32 v31_24 2) fun v32_25 =>
  xR Tryd.prog (sLoad 30 v32_25) (w6.drew) fun v33_26 =>
  xP Tryd.prog (sBuild 63 #[(0, v21_17), (1, v25_20), (2, v29_23), (3, v33_26)]) fun v34_27 =>
  xE Tryd.prog (sAlloc 63) (w6.drew) fun v6_28 w29 =>
  xStill Tryd.prog (sLoad 30 v32_25) v33_26 w29 <|
  xStill Tryd.prog (sLoad 3 v28_22) v29_23 w29 <|
  xStill Tryd.prog (sLoad 3 v24_19) v25_20 w29 <|
  xStill Tryd.prog (sLoad 3 v20_16) v21_17 w29 <|
  xE Tryd.prog (sStore 63 v6_28 v34_27) w29 fun _ w30 =>
  xR Tryd.prog (sLoad 63 v6_28) w30 fun v35_31 =>
  xE Tryd.prog (sCall 35 #[v35_31]) w30 fun v36_32 w33 =>
  xP Tryd.prog (sUn .not v36_32) fun v37_34 =>
  xIf v37_34 (
    xP Tryd.prog (sBuild 63 #[]) fun v38_35 =>
    xP Tryd.prog (sIface 39 (.int .i64 2)) fun v39_36 =>
    xE Tryd.prog (sCall 41 #[(.string (ByteArray.mk #[98, 97, 116, 99, 104, 46, 71, 101, 116])), (.int .i64 0), v39_36]) w33 fun v40_37 w38 =>
    xE Tryd.prog (sStore 63 v2_1 v38_35) w38 fun _ w39 =>
    xR Tryd.prog (sLoad 63 v2_1) w39 fun r40 => R (.returned (.tuple #[r40, v40_37])) w39) (
    xR Tryd.prog (sLoad 63 v6_28) w33 fun v41_41 =>
  xE Tryd.prog (sStore 63 v2_1 v41_41) w33 fun _ w42 =>
  xR Tryd.prog (sLoad 63 v2_1) w42 fun r43 => R (.returned (.tuple #[r43, (.nilIface)])) w42))
theorem C_batch_Get {a0 : Value} {w : World} {R : Ending → World → Prop} (h : S_batch_Get a0 w R) : Calls Tryd.prog 32 #[a0] w R :=
  funcVC_sound (an := A_batch_Get) (args := [a0]) (k := 1) Tryd.func32 (by kernel_rfl) rfl
    (Eq.mp (show S_batch_Get a0 w R = funcVC Tryd.prog Tryd.f32 A_batch_Get [a0] w R by kernel_rfl) h)

/-- stave/batch.Size -/
def A_batch_Size : Ann := .nil
def S_batch_Size (a0 : Value) (w : World) (R : Ending → World → Prop) : Prop :=
  xE Tryd.prog (sBox 63 a0) w fun v1_1 w2 =>
  xR Tryd.prog (sLoad 63 v1_1) w2 fun v3_3 =>
  xE Tryd.prog (sCall 31 #[v3_3]) w2 fun v4_4 w5 =>
  xP Tryd.prog (sB .len #[25] #[v4_4]) fun v5_6 =>
  R (.returned v5_6) w5
theorem C_batch_Size {a0 : Value} {w : World} {R : Ending → World → Prop} (h : S_batch_Size a0 w R) : Calls Tryd.prog 33 #[a0] w R :=
  funcVC_sound (an := A_batch_Size) (args := [a0]) (k := 1) Tryd.func33 (by kernel_rfl) rfl
    (Eq.mp (show S_batch_Size a0 w R = funcVC Tryd.prog Tryd.f33 A_batch_Size [a0] w R by kernel_rfl) h)

/-- stave/stavelaw15.few -/
def A_stavelaw15_few : Ann := (.seq .nil (.seq .nil (.seq (.seq .nil (.one (.loop [3, 4] (.seq (.join [13] .nil .nil) (.seq (.one (.draw (.pre [0, 1, 2, 3, 4, 5, 6, 7, 8, 9, 10, 11, 12, 13, 14, 15, 16] .nil) [0, 0, 2, 0, 14, 30, 0, 64, 0, 448, 960, 1984, 4032, 8190, 16382, 32767, 65535])) .nil))))) .nil)))
def S_stavelaw15_few (a0 : Value) (w : World) (R : Ending → World → Prop) : Prop :=
  xE Tryd.prog (sBox 63 a0) w fun v1_1 w2 =>
  xE Tryd.prog (sAlloc 63) w2 fun v2_3 w4 =>
  xLoop [(.slice none 0 0), (.int .i64 0)] w4 fun J5 vs6 _ w8 =>
    xJoin (fun J9 =>
      xP Tryd.prog (sFA 63 v1_1 3) fun v6_10 =>
      xR Tryd.prog (sLoad 30 v6_10) w8 fun v7_11 =>
      xP Tryd.prog (sB .len #[30] #[v7_11]) fun v8_12 =>
      xP Tryd.prog (sBin .lss 3 (vs6.getD 1 undef) v8_12) fun v9_13 =>
      xIf v9_13 (
      xP Tryd.prog (sBin .lss 3 (vs6.getD 1 undef) (.int .i64 10)) fun v12_14 =>
      J9 [v12_14] w8) (
      J9 [(.bool false)] w8)) fun vs15 _ w17 =>
    xIf (vs15.getD 0 undef) (
      xP Tryd.prog (sFA 63 v1_1 3) fun v17_18 =>
    xR Tryd.prog (sLoad 30 v17_18) (w17.drew) fun v18_19 =>
    xP Tryd.prog (sIA 30 v18_19 (vs6.getD 1 undef)) fun v20_20 =>
    xR Tryd.prog (sLoad 9 v20_20) (w17.drew) fun v21_21 =>
    xP Tryd.prog (sFA 63 v1_1 3) fun v22_22 =>
    xR Tryd.prog (sLoad 30 v22_22) (w17.drew) fun v23_23 =>
    xP Tryd.prog (sIA 30 v23_23 (vs6.getD 1 undef)) fun v25_24 =>
    xR Tryd.prog (sLoad 9 v25_24) (w17.drew) fun v26_25 =>
    xP Tryd.prog (sB .len #[9] #[v26_25]) fun v27_26 =>
    xP Tryd.prog (sB .min #[3, 3] #[v27_26, (.int .i64 70)]) fun v28_27 =>
    xP Tryd.prog (sSlice 9 v21_21 none (some v28_27) none) fun v29_28 =>
    xE Tryd.prog (sBuildSlice 30 1 #[(0, v29_28)]) (w17.drew) fun v30_29 w30 =>
    xE Tryd.prog (sB .append #[30, 30] #[(vs6.getD 0 undef), v30_29]) w30 fun v31_31 w32 =>
    xP Tryd.prog (sBin .add 3 (vs6.getD 1 undef) (.int .i64 1)) fun v15_33 =>
    J5 [v31_31, v15_33] w32) (
      xP Tryd.prog (sFA 63 v1_1 3) fun v33_34 =>
  xE Tryd.prog (sStore 30 v33_34 (vs6.getD 0 undef)) w17 fun _ w35 =>
  xR Tryd.prog (sLoad 63 v1_1) w35 fun v34_36 =>
  xE Tryd.prog (sStore 63 v2_3 v34_36) w35 fun _ w37 =>
  xR Tryd.prog (sLoad 63 v2_3) w37 fun r38 => R (.returned r38) w37)
theorem C_stavelaw15_few {a0 : Value} {w : World} {R : Ending → World → Prop} (h : S_stavelaw15_few a0 w R) : Calls Tryd.prog 34 #[a0] w R :=
  funcVC_sound (an := A_stavelaw15_few) (args := [a0]) (k := 1) Tryd.func34 (by kernel_rfl) rfl
    (Eq.mp (show S_stavelaw15_few a0 w R = funcVC Tryd.prog Tryd.f34 A_stavelaw15_few [a0] w R by kernel_rfl) h)

/-- stave/batch.Right -/
def A_batch_Right : Ann := .nil
def S_batch_Right (a0 : Value) (w : World) (R : Ending → World → Prop) : Prop :=
  xE Tryd.prog (sBox 63 a0) w fun v1_1 w2 =>
  xR Tryd.prog (sLoad 63 v1_1) w2 fun v6_3 =>
  xE Tryd.prog (sCall 56 #[v6_3]) w2 fun v7_4 w5 =>
  xP Tryd.prog (sExtract v7_4 0) fun _ =>
  xP Tryd.prog (sExtract v7_4 1) fun v9_7 =>
  xR Tryd.prog (sEq .eql 27 true v9_7 (.nilIface)) w5 fun v11_8 =>
  xIf v11_8 (
  xP Tryd.prog (sFA 63 v1_1 1) fun v13_9 =>
  xR Tryd.prog (sLoad 3 v13_9) w5 fun v14_10 =>
  xP Tryd.prog (sBin .gtr 3 v14_10 (.int .i64 0)) fun v15_11 =>
  xIf v15_11 (
  R (.returned (.bool true)) w5) (
  xP Tryd.prog (sFA 63 v1_1 2) fun v17_12 =>
  xR Tryd.prog (sLoad 3 v17_12) w5 fun v18_13 =>
  xR Tryd.prog (sEq .eql 3 true v18_13 (.int .i64 0)) w5 fun v19_14 =>
  R (.returned v19_14) w5)) (
  R (.returned (.bool false)) w5)
theorem C_batch_Right {a0 : Value} {w : World} {R : Ending → World → Prop} (h : S_batch_Right a0 w R) : Calls Tryd.prog 35 #[a0] w R :=
  funcVC_sound (an := A_batch_Right) (args := [a0]) (k := 1) Tryd.func35 (by kernel_rfl) rfl
    (Eq.mp (show S_batch_Right a0 w R = funcVC Tryd.prog Tryd.f35 A_batch_Right [a0] w R by kernel_rfl) h)

/-- stave/staveref14.RightBatch -/
def A_staveref14_RightBatch : Ann := (.seq .nil (.seq (.join [54] .nil .nil) (.seq (.seq .nil (.one (.loop [58] .nil))) .nil)))
def S_staveref14_RightBatch (a0 : Value) (w : World) (R : Ending → World → Prop) : Prop :=
  xE Tryd.prog (sBox 63 a0) w fun v1_1 w2 =>
  xJoin (fun J3 =>
    xP Tryd.prog (sFA 63 v1_1 3) fun v5_4 =>
    xR Tryd.prog (sLoad 30 v5_4) w2 fun v6_5 =>
    xP Tryd.prog (sB .len #[30] #[v6_5]) fun v7_6 =>
    xP Tryd.prog (sBin .lss 3 v7_6 (.int .i64 1)) fun v8_7 =>
    xIf v8_7 (
    J3 [(.bool true)] w2) (
    xP Tryd.prog (sFA 63 v1_1 3) fun v10_8 =>
    xR Tryd.prog (sLoad 30 v10_8) w2 fun v11_9 =>
    xP Tryd.prog (sB .len #[30] #[v11_9]) fun v12_10 =>
    xP Tryd.prog (sBin .gtr 3 v12_10 (.int .i64 8)) fun v13_11 =>
    xIf v13_11 (
    J3 [(.bool true)] w2) (
    xP Tryd.prog (sFA 63 v1_1 0) fun v16_12 =>
    xR Tryd.prog (sLoad 3 v16_12) w2 fun v17_13 =>
    xP Tryd.prog (sBin .lss 3 v17_13 (.int .i64 0)) fun v18_14 =>
    xIf v18_14 (
    J3 [(.bool true)] w2) (
    xP Tryd.prog (sFA 63 v1_1 0) fun v21_15 =>
    xR Tryd.prog (sLoad 3 v21_15) w2 fun v22_16 =>
    xP Tryd.prog (sBin .gtr 3 v22_16 (.int .i64 1125899906842624)) fun v23_17 =>
    xIf v23_17 (
    J3 [(.bool true)] w2) (
    xP Tryd.prog (sFA 63 v1_1 1) fun v26_18 =>
    xR Tryd.prog (sLoad 3 v26_18) w2 fun v27_19 =>
    xP Tryd.prog (sBin .lss 3 v27_19 (.int .i64 0)) fun v28_20 =>
    xIf v28_20 (
    J3 [(.bool true)] w2) (
    xP Tryd.prog (sFA 63 v1_1 1) fun v31_21 =>
    xR Tryd.prog (sLoad 3 v31_21) w2 fun v32_22 =>
    xP Tryd.prog (sBin .gtr 3 v32_22 (.int .i64 1048576)) fun v33_23 =>
    xIf v33_23 (
    J3 [(.bool true)] w2) (
    xP Tryd.prog (sFA 63 v1_1 2) fun v36_24 =>
    xR Tryd.prog (sLoad 3 v36_24) w2 fun v37_25 =>
    xP Tryd.prog (sBin .lss 3 v37_25 (.int .i64 0)) fun v38_26 =>
    xIf v38_26 (
    J3 [(.bool true)] w2) (
    xP Tryd.prog (sFA 63 v1_1 2) fun v41_27 =>
    xR Tryd.prog (sLoad 3 v41_27) w2 fun v42_28 =>
    xP Tryd.prog (sBin .gtr 3 v42_28 (.int .i64 1099511627776)) fun v43_29 =>
    xIf v43_29 (
    J3 [(.bool true)] w2) (
    xP Tryd.prog (sFA 63 v1_1 1) fun v46_30 =>
    xR Tryd.prog (sLoad 3 v46_30) w2 fun v47_31 =>
    xR Tryd.prog (sEq .eql 3 true v47_31 (.int .i64 0)) w2 fun v48_32 =>
    xIf v48_32 (
    xP Tryd.prog (sFA 63 v1_1 2) fun v50_33 =>
    xR Tryd.prog (sLoad 3 v50_33) w2 fun v51_34 =>
    xR Tryd.prog (sEq .neq 3 true v51_34 (.int .i64 0)) w2 fun v52_35 =>
    J3 [v52_35] w2) (
    J3 [(.bool false)] w2)))))))))) fun vs36 _ w38 =>
  xIf (vs36.getD 0 undef) (
    R (.returned (.bool false)) w38) (
    xP Tryd.prog (sFA 63 v1_1 3) fun v55_39 =>
  xR Tryd.prog (sLoad 30 v55_39) w38 fun v56_40 =>
  xP Tryd.prog (sB .len #[30] #[v56_40]) fun v57_41 =>
  xLoop [(.int .i64 0)] w38 fun J42 vs43 _ w45 =>
    xP Tryd.prog (sBin .lss 3 (vs43.getD 0 undef) v57_41) fun v59_46 =>
    xIf v59_46 (
      xP Tryd.prog (sIA 30 v56_40 (vs43.getD 0 undef)) fun v60_47 =>
    xR Tryd.prog (sLoad 9 v60_47) w45 fun v61_48 =>
    xP Tryd.prog (sB .len #[9] #[v61_48]) fun v63_49 =>
    xP Tryd.prog (sBin .gtr 3 v63_49 (.int .i64 60)) fun v64_50 =>
    xIf v64_50 (
      R (.returned (.bool false)) w45) (
      xP Tryd.prog (sBin .add 3 (vs43.getD 0 undef) (.int .i64 1)) fun v65_51 =>
    J42 [v65_51] w45)) (
      R (.returned (.bool true)) w45))
theorem C_staveref14_RightBatch {a0 : Value} {w : World} {R : Ending → World → Prop} (h : S_staveref14_RightBatch a0 w R) : Calls Tryd.prog 36 #[a0] w R :=
  funcVC_sound (an := A_staveref14_RightBatch) (args := [a0]) (k := 1) Tryd.func36 (by kernel_rfl) rfl
    (Eq.mp (show S_staveref14_RightBatch a0 w R = funcVC Tryd.prog Tryd.f36 A_staveref14_RightBatch [a0] w R by kernel_rfl) h)

/-- stave/staveref14.PutBatch -/
def A_staveref14_PutBatch : Ann := (.seq .nil (.seq .nil (.join [3] (.draw (.pre [1, 2, 3, 4, 5, 6, 7, 8, 9, 10, 11, 12] (.alt 0 (.pre [13, 14, 15, 16, 17, 18, 19, 20, 21] .nil) (.op 13 (.pre [0, 14, 15, 16, 17, 18, 19, 20, 21] .nil)))) [0, 0, 2, 6, 0, 16, 48, 0, 128, 384, 0, 1024, 3072, 8190, 16383, 32767, 65535, 65535, 65535, 131071, 786431, 2097151]) .nil)))
def S_staveref14_PutBatch (a0 : Value) (w : World) (R : Ending → World → Prop) : Prop :=
  xE Tryd.prog (sBox 63 a0) w fun v1_1 w2 =>
  xR Tryd.prog (sLoad 63 v1_1) w2 fun v6_3 =>
  xE Tryd.prog (sCall 36 #[v6_3]) w2 fun v7_4 w5 =>
  xP Tryd.prog (sUn .not v7_4) fun v8_6 =>
  xIf v8_6 (
    R (.returned (.slice none 0 0)) w5) (
    xJoin (fun J7 =>
    xP Tryd.prog (sFA 63 v1_1 0) fun v11_8 =>
    xR Tryd.prog (sLoad 3 v11_8) (w5.drew) fun v12_9 =>
    xP Tryd.prog (sBuild 32 #[(0, v12_9)]) fun v13_10 =>
    xP Tryd.prog (sFA 63 v1_1 1) fun v14_11 =>
    xR Tryd.prog (sLoad 3 v14_11) (w5.drew) fun v15_12 =>
    xP Tryd.prog (sBuild 32 #[(0, v15_12)]) fun v16_13 =>
    xP Tryd.prog (sFA 63 v1_1 2) fun v17_14 =>
    xR Tryd.prog (sLoad 3 v17_14) (w5.drew) fun v18_15 =>
    xP Tryd.prog (sBuild 32 #[(0, v18_15)]) fun v19_16 =>
    xP Tryd.prog (sFA 63 v1_1 3) fun v20_17 =>
    xR Tryd.prog (sLoad 30 v20_17) (w5.drew) fun v21_18 =>
    xP Tryd.prog (sBuild 32 #[(2, v21_18)]) fun v22_19 =>
    (xE Tryd.prog (sCall 58 #[]) (w5.drew) fun v10_20 w21 =>
    xStill Tryd.prog (sLoad 30 v20_17) v21_18 w21 <|
    xStill Tryd.prog (sLoad 3 v17_14) v18_15 w21 <|
    xStill Tryd.prog (sLoad 3 v14_11) v15_12 w21 <|
    xStill Tryd.prog (sLoad 3 v11_8) v12_9 w21 <|
    xE Tryd.prog (sBuildSlice 33 4 #[(0, v13_10), (1, v16_13), (2, v19_16), (3, v22_19)]) w21 fun v23_22 w23 =>
    xE Tryd.prog (sCall 25 #[v10_20, v23_22]) w23 fun v24_24 w25 =>
    xP Tryd.prog (sExtract v24_24 0) fun v25_26 =>
    xP Tryd.prog (sExtract v24_24 1) fun _ =>
    xP Tryd.prog (sExtract v24_24 2) fun _ =>
    J7 [v25_26] w25) ∧
    (xE Tryd.prog (sBuildSlice 33 4 #[(0, v13_10), (1, v16_13), (2, v19_16), (3, v22_19)]) (w5.drew) fun v23_29 w30 =>
    xE Tryd.prog (sCall 58 #[]) w30 fun v10_31 w32 =>
    xE Tryd.prog (sCall 25 #[v10_31, v23_29]) w32 fun v24_33 w34 =>
    xP Tryd.prog (sExtract v24_33 0) fun v25_35 =>
    xP Tryd.prog (sExtract v24_33 1) fun _ =>
    xP Tryd.prog (sExtract v24_33 2) fun _ =>
    J7 [v25_35] w34)) fun vs38 _ w40 =>
  R (.returned (vs38.getD 0 undef)) w40)
theorem C_staveref14_PutBatch {a0 : Value} {w : World} {R : Ending → World → Prop} (h : S_staveref14_PutBatch a0 w R) : Calls Tryd.prog 37 #[a0] w R :=
  funcVC_sound (an := A_staveref14_PutBatch) (args := [a0]) (k := 1) Tryd.func37 (by kernel_rfl) rfl
    (Eq.mp (show S_staveref14_PutBatch a0 w R = funcVC Tryd.prog Tryd.f37 A_staveref14_PutBatch [a0] w R by kernel_rfl) h)

/-- stave/staveref14.GetBatch -/
def A_staveref14_GetBatch : Ann := (.seq .nil (.seq .nil (.seq .nil (.seq (.draw (.pre [0, 1, 2, 3, 4, 5, 6, 7, 8, 9, 10, 11, 12, 13, 14, 15, 16, 17, 18] .nil) [0, 1, 3, 7, 0, 16, 48, 112, 0, 256, 768, 1792, 0, 4096, 12288, 28672, 65535, 0, 262143]) .nil))))
def S_staveref14_GetBatch (a0 : Value) (w : World) (R : Ending → World → Prop) : Prop :=
  xE Tryd.prog (sAlloc 63) w fun v2_1 w2 =>
  xE Tryd.prog (sCall 58 #[]) w2 fun v9_3 w4 =>
  xE Tryd.prog (sCall 28 #[v9_3, a0]) w4 fun v11_5 w6 =>
  xP Tryd.prog (sExtract v11_5 0) fun v12_7 =>
  xP Tryd.prog (sExtract v11_5 1) fun v13_8 =>
  xP Tryd.prog (sExtract v11_5 2) fun _ =>
  xR Tryd.prog (sEq .neq 3 true v13_8 (.int .i64 0)) w6 fun v16_10 =>
  xIf v16_10 (
    xP Tryd.prog (sBuild 63 #[]) fun v17_11 =>
    xE Tryd.prog (sStore 63 v2_1 v17_11) w6 fun _ w12 =>
    xR Tryd.prog (sLoad 63 v2_1) w12 fun r13 => R (.returned (.tuple #[r13, v13_8])) w12) (
    xP Tryd.prog (sIA 33 v12_7 (.int .i64 0)) fun v20_14 =>
  xP Tryd.prog (sFA 32 v20_14 0) fun v21_15 =>
  xR Tryd.prog (sLoad 3 v21_15) (w6.drew) fun v22_16 =>
  xP Tryd.prog (sIA 33 v12_7 (.int .i64 1)) fun v24_17 =>
  xP Tryd.prog (sFA 32 v24_17 0) fun v25_18 =>
  xR Tryd.prog (sLoad 3 v25_18) (w6.drew) fun v26_19 =>
  xP Tryd.prog (sIA 33 v12_7 (.int .i64 2)) fun v28_20 =>
  xP Tryd.prog (sFA 32 v28_20 0) fun v29_21 =>
  xR Tryd.prog (sLoad 3 v29_21) (w6.drew) fun v30_22 =>
  xP Tryd.prog (sIA 33 v12_7 (.int .i64 3)) fun v32_23 =>
  xP Tryd.prog (sFA 32 v32_23 2) fun v33_24 =>
  xR Tryd.prog (sLoad 30 v33_24) (w6.drew) fun v34_25 =>
  xP Tryd.prog (sBuild 63 #[(0, v22_16), (1, v26_19), (2, v30_22), (3, v34_25)]) fun v35_26 =>
  xE Tryd.prog (sAlloc 63) (w6.drew) fun v7_27 w28 =>
  xStill Tryd.prog (sLoad 30 v33_24) v34_25 w28 <|
  xStill Tryd.prog (sLoad 3 v29_21) v30_22 w28 <|
  xStill Tryd.prog (sLoad 3 v25_18) v26_19 w28 <|
  xStill Tryd.prog (sLoad 3 v21_15) v22_16 w28 <|
  xE Tryd.prog (sStore 63 v7_27 v35_26) w28 fun _ w29 =>
  xR Tryd.prog (sLoad 63 v7_27) w29 fun v36_30 =>
  xE Tryd.prog (sCall 36 #[v36_30]) w29 fun v37_31 w32 =>
  xP Tryd.prog (sUn .not v37_31) fun v38_33 =>
  xIf v38_33 (
    xP Tryd.prog (sBuild 63 #[]) fun v39_34 =>
    xE Tryd.prog (sStore 63 v2_1 v39_34) w32 fun _ w35 =>
    xR Tryd.prog (sLoad 63 v2_1) w35 fun r36 => R (.returned (.tuple #[r36, (.int .i64 2)])) w35) (
    xR Tryd.prog (sLoad 63 v7_27) w32 fun v40_37 =>
  xE Tryd.prog (sStore 63 v2_1 v40_37) w32 fun _ w38 =>
  xR Tryd.prog (sLoad 63 v2_1) w38 fun r39 => R (.returned (.tuple #[r39, (.int .i64 0)])) w38))
theorem C_staveref14_GetBatch {a0 : Value} {w : World} {R : Ending → World → Prop} (h : S_staveref14_GetBatch a0 w R) : Calls Tryd.prog 38 #[a0] w R :=
  funcVC_sound (an := A_staveref14_GetBatch) (args := [a0]) (k := 1) Tryd.func38 (by kernel_rfl) rfl
    (Eq.mp (show S_staveref14_GetBatch a0 w R = funcVC Tryd.prog Tryd.f38 A_staveref14_GetBatch [a0] w R by kernel_rfl) h)

/-- stave/stavelaw15.same -/
def A_stavelaw15_same : Ann := .nil
def S_stavelaw15_same (a0 : Value) (a1 : Value) (w : World) (R : Ending → World → Prop) : Prop :=
  xE Tryd.prog (sBox 63 a0) w fun v2_1 w2 =>
  xE Tryd.prog (sBox 63 a1) w2 fun v3_3 w4 =>
  xP Tryd.prog (sFA 63 v2_1 0) fun v5_5 =>
  xR Tryd.prog (sLoad 3 v5_5) w4 fun v6_6 =>
  xP Tryd.prog (sFA 63 v3_3 0) fun v7_7 =>
  xR Tryd.prog (sLoad 3 v7_7) w4 fun v8_8 =>
  xR Tryd.prog (sEq .eql 3 false v6_6 v8_8) w4 fun v9_9 =>
  xIf v9_9 (
  xP Tryd.prog (sFA 63 v2_1 1) fun v11_10 =>
  xR Tryd.prog (sLoad 3 v11_10) w4 fun v12_11 =>
  xP Tryd.prog (sFA 63 v3_3 1) fun v13_12 =>
  xR Tryd.prog (sLoad 3 v13_12) w4 fun v14_13 =>
  xR Tryd.prog (sEq .eql 3 false v12_11 v14_13) w4 fun v15_14 =>
  xIf v15_14 (
  xP Tryd.prog (sFA 63 v2_1 2) fun v18_15 =>
  xR Tryd.prog (sLoad 3 v18_15) w4 fun v19_16 =>
  xP Tryd.prog (sFA 63 v3_3 2) fun v20_17 =>
  xR Tryd.prog (sLoad 3 v20_17) w4 fun v21_18 =>
  xR Tryd.prog (sEq .eql 3 false v19_16 v21_18) w4 fun v22_19 =>
  xIf v22_19 (
  xP Tryd.prog (sFA 63 v2_1 3) fun v25_20 =>
  xR Tryd.prog (sLoad 30 v25_20) w4 fun v26_21 =>
  xP Tryd.prog (sFA 63 v3_3 3) fun v27_22 =>
  xR Tryd.prog (sLoad 30 v27_22) w4 fun v28_23 =>
  xE Tryd.prog (sCall 55 #[v26_21, v28_23]) w4 fun v29_24 w25 =>
  R (.returned v29_24) w25) (
  R (.returned (.bool false)) w4)) (
  R (.returned (.bool false)) w4)) (
  R (.returned (.bool false)) w4)
theorem C_stavelaw15_same {a0 : Value} {a1 : Value} {w : World} {R : Ending → World → Prop} (h : S_stavelaw15_same a0 a1 w R) : Calls Tryd.prog 39 #[a0, a1] w R :=
  funcVC_sound (an := A_stavelaw15_same) (args := [a0, a1]) (k := 2) Tryd.func39 (by kernel_rfl) rfl
    (Eq.mp (show S_stavelaw15_same a0 a1 w R = funcVC Tryd.prog Tryd.f39 A_stavelaw15_same [a0, a1] w R by kernel_rfl) h)

/-- stave/gram.wrong -/
def A_gram_wrong : Ann := .nil
def S_gram_wrong (a0 : Value) (w : World) (R : Ending → World → Prop) : Prop :=
  xE Tryd.prog (sCall 59 #[a0, (.func (.func 60) #[] #[])]) w fun v4_1 w2 =>
  R (.returned v4_1) w2
theorem C_gram_wrong {a0 : Value} {w : World} {R : Ending → World → Prop} (h : S_gram_wrong a0 w R) : Calls Tryd.prog 40 #[a0] w R :=
  funcVC_sound (an := A_gram_wrong) (args := [a0]) (k := 1) Tryd.func40 (by kernel_rfl) rfl
    (Eq.mp (show S_gram_wrong a0 w R = funcVC Tryd.prog Tryd.f40 A_gram_wrong [a0] w R by kernel_rfl) h)

/-- stave/fault.Wrap -/
def A_fault_Wrap : Ann := .nil
def S_fault_Wrap (a0 : Value) (a1 : Value) (a2 : Value) (w : World) (R : Ending → World → Prop) : Prop :=
  xR Tryd.prog (sEq .eql 27 true a2 (.nilIface)) w fun v8_1 =>
  xIf v8_1 (
    R (.returned (.nilIface)) w) (
    xP Tryd.prog (sBuild 85 #[(0, a0), (1, a1), (2, a2)]) fun v12_2 =>
  xP Tryd.prog (sIface 85 v12_2) fun v13_3 =>
  R (.returned v13_3) w)
theorem C_fault_Wrap {a0 : Value} {a1 : Value} {a2 : Value} {w : World} {R : Ending → World → Prop} (h : S_fault_Wrap a0 a1 a2 w R) : Calls Tryd.prog 41 #[a0, a1, a2] w R :=
  funcVC_sound (an := A_fault_Wrap) (args := [a0, a1, a2]) (k := 3) Tryd.func41 (by kernel_rfl) rfl
    (Eq.mp (show S_fault_Wrap a0 a1 a2 w R = funcVC Tryd.prog Tryd.f41 A_fault_Wrap [a0, a1, a2] w R by kernel_rfl) h)

/-- stave/gram.fits -/
def A_gram_fits : Ann := (.seq .nil (.seq (.draw (.pre [0, 1, 2, 3, 4, 5, 6, 7, 8, 9, 10, 11, 12] .nil) [0, 1, 3, 0, 8, 24, 0, 64, 192, 448, 7, 1087, 4095]) .nil))
def S_gram_fits (a0 : Value) (a1 : Value) (w : World) (R : Ending → World → Prop) : Prop :=
  xE Tryd.prog (sBox 23 a0) w fun v2_1 w2 =>
  xE Tryd.prog (sBox 32 a1) w2 fun v3_3 w4 =>
  xP Tryd.prog (sFA 32 v3_3 0) fun v9_5 =>
  xR Tryd.prog (sLoad 3 v9_5) (w4.drew) fun v10_6 =>
  xR Tryd.prog (sEq .neq 3 true v10_6 (.int .i64 0)) (w4.drew) fun v11_7 =>
  xP Tryd.prog (sFA 32 v3_3 1) fun v12_8 =>
  xR Tryd.prog (sLoad 9 v12_8) (w4.drew) fun v13_9 =>
  xR Tryd.prog (sEq .neq 9 true v13_9 (.string (ByteArray.mk #[]))) (w4.drew) fun v14_10 =>
  xP Tryd.prog (sFA 32 v3_3 2) fun v15_11 =>
  xR Tryd.prog (sLoad 30 v15_11) (w4.drew) fun v16_12 =>
  xP Tryd.prog (sB .len #[30] #[v16_12]) fun v17_13 =>
  xP Tryd.prog (sBin .gtr 3 v17_13 (.int .i64 0)) fun v18_14 =>
  xP Tryd.prog (sFA 23 v2_1 0) fun v19_15 =>
  xR Tryd.prog (sLoad 3 v19_15) (w4.drew) fun v20_16 =>
  xR Tryd.prog (sEq .eql 3 true v20_16 (.int .i64 1)) (w4.drew) fun v22_17 =>
  xIf v22_17 (
    xR Tryd.prog (sLoad 23 v2_1) (w4.drew) fun v23_18 =>
    xP Tryd.prog (sFA 32 v3_3 0) fun v24_19 =>
    xR Tryd.prog (sLoad 3 v24_19) (w4.drew) fun v25_20 =>
    xE Tryd.prog (sCall 61 #[v23_18, v25_20]) (w4.drew) fun v26_21 w22 =>
    xIf v26_21 (
    xP Tryd.prog (sUn .not v14_10) fun v29_23 =>
    xIf v29_23 (
    xP Tryd.prog (sUn .not v18_14) fun v33_24 =>
    R (.returned v33_24) w22) (
    R (.returned (.bool false)) w22)) (
    R (.returned (.bool false)) w22)) (
    xR Tryd.prog (sEq .eql 3 true v20_16 (.int .i64 2)) (w4.drew) fun v36_25 =>
    xIf v36_25 (
      xR Tryd.prog (sLoad 23 v2_1) (w4.drew) fun v37_26 =>
      xP Tryd.prog (sFA 32 v3_3 1) fun v38_27 =>
      xR Tryd.prog (sLoad 9 v38_27) (w4.drew) fun v39_28 =>
      xP Tryd.prog (sB .len #[9] #[v39_28]) fun v40_29 =>
      xE Tryd.prog (sCall 61 #[v37_26, v40_29]) (w4.drew) fun v41_30 w31 =>
      xIf v41_30 (
      xP Tryd.prog (sUn .not v11_7) fun v44_32 =>
      xIf v44_32 (
      xP Tryd.prog (sUn .not v18_14) fun v48_33 =>
      R (.returned v48_33) w31) (
      R (.returned (.bool false)) w31)) (
      R (.returned (.bool false)) w31)) (
      xP Tryd.prog (sFA 32 v3_3 2) fun v50_34 =>
  xR Tryd.prog (sLoad 30 v50_34) (w4.drew) fun v51_35 =>
  xP Tryd.prog (sFunc (.func 63) #[] #[v2_1]) fun v52_36 =>
  xE Tryd.prog (sCall 62 #[v51_35, v52_36]) (w4.drew) fun v53_37 w38 =>
  xR Tryd.prog (sLoad 23 v2_1) w38 fun v54_39 =>
  xP Tryd.prog (sFA 32 v3_3 2) fun v55_40 =>
  xR Tryd.prog (sLoad 30 v55_40) w38 fun v56_41 =>
  xP Tryd.prog (sB .len #[30] #[v56_41]) fun v57_42 =>
  xE Tryd.prog (sCall 61 #[v54_39, v57_42]) w38 fun v58_43 w44 =>
  xIf v58_43 (
  xP Tryd.prog (sUn .not v53_37) fun v61_45 =>
  xIf v61_45 (
  xP Tryd.prog (sUn .not v11_7) fun v65_46 =>
  xIf v65_46 (
  xP Tryd.prog (sUn .not v14_10) fun v69_47 =>
  R (.returned v69_47) w44) (
  R (.returned (.bool false)) w44)) (
  R (.returned (.bool false)) w44)) (
  R (.returned (.bool false)) w44)))
theorem C_gram_fits {a0 : Value} {a1 : Value} {w : World} {R : Ending → World → Prop} (h : S_gram_fits a0 a1 w R) : Calls Tryd.prog 42 #[a0, a1] w R :=
  funcVC_sound (an := A_gram_fits) (args := [a0, a1]) (k := 2) Tryd.func42 (by kernel_rfl) rfl
    (Eq.mp (show S_gram_fits a0 a1 w R = funcVC Tryd.prog Tryd.f42 A_gram_fits [a0, a1] w R by kernel_rfl) h)

/-- stave/gram.written -/
def A_gram_written : Ann := (.seq .nil (.seq (.seq .nil (.one (.seq .nil (.seq .nil (.seq .nil (.seq (.seq (.draw (.pre [0, 1, 2, 4, 5, 3, 6, 7] .nil) [0, 1, 3, 7, 0, 16, 63, 127]) .nil) .nil)))))) (.seq .nil (.seq (.seq .nil (.one (.loop [5, 33] .nil))) .nil))))
def S_gram_written (a0 : Value) (a1 : Value) (w : World) (R : Ending → World → Prop) : Prop :=
  xE Tryd.prog (sBox 23 a0) w fun v2_1 w2 =>
  xE Tryd.prog (sBox 32 a1) w2 fun v3_3 w4 =>
  xP Tryd.prog (sFA 23 v2_1 0) fun v8_5 =>
  xR Tryd.prog (sLoad 3 v8_5) w4 fun v9_6 =>
  xR Tryd.prog (sEq .eql 3 true v9_6 (.int .i64 1)) w4 fun v11_7 =>
  xIf v11_7 (
    xP Tryd.prog (sFA 32 v3_3 0) fun v12_8 =>
    xR Tryd.prog (sLoad 3 v12_8) w4 fun v13_9 =>
    xP Tryd.prog (sFA 23 v2_1 1) fun v14_10 =>
    xR Tryd.prog (sLoad 3 v14_10) w4 fun v15_11 =>
    xE Tryd.prog (sCall 64 #[v13_9, v15_11]) w4 fun v16_12 w13 =>
    R (.returned v16_12) w13) (
    xR Tryd.prog (sEq .eql 3 true v9_6 (.int .i64 2)) w4 fun v18_14 =>
    xIf v18_14 (
      xP Tryd.prog (sFA 32 v3_3 1) fun v19_15 =>
      xR Tryd.prog (sLoad 9 v19_15) (w4.drew) fun v20_16 =>
      xP Tryd.prog (sB .len #[9] #[v20_16]) fun v21_17 =>
      xP Tryd.prog (sFA 32 v3_3 1) fun v23_18 =>
      xR Tryd.prog (sLoad 9 v23_18) (w4.drew) fun v24_19 =>
      xE Tryd.prog (sCall 64 #[v21_17, (.int .i64 2)]) (w4.drew) fun v22_20 w21 =>
      xStill Tryd.prog (sLoad 9 v23_18) v24_19 w21 <|
      xE Tryd.prog (sB .append #[25, 9] #[v22_20, v24_19]) w21 fun v25_22 w23 =>
      R (.returned v25_22) w23) (
      xP Tryd.prog (sFA 32 v3_3 2) fun v26_24 =>
  xR Tryd.prog (sLoad 30 v26_24) w4 fun v27_25 =>
  xP Tryd.prog (sB .len #[30] #[v27_25]) fun v28_26 =>
  xE Tryd.prog (sCall 64 #[v28_26, (.int .i64 1)]) w4 fun v29_27 w28 =>
  xP Tryd.prog (sFA 32 v3_3 2) fun v30_29 =>
  xR Tryd.prog (sLoad 30 v30_29) w28 fun v31_30 =>
  xP Tryd.prog (sB .len #[30] #[v31_30]) fun v32_31 =>
  xLoop [v29_27, (.int .i64 0)] w28 fun J32 vs33 _ w35 =>
    xP Tryd.prog (sBin .lss 3 (vs33.getD 1 undef) v32_31) fun v34_36 =>
    xIf v34_36 (
      xP Tryd.prog (sIA 30 v31_30 (vs33.getD 1 undef)) fun v35_37 =>
    xR Tryd.prog (sLoad 9 v35_37) w35 fun v36_38 =>
    xP Tryd.prog (sB .len #[9] #[v36_38]) fun v39_39 =>
    xE Tryd.prog (sCall 64 #[v39_39, (.int .i64 2)]) w35 fun v40_40 w41 =>
    xE Tryd.prog (sB .append #[25, 25] #[(vs33.getD 0 undef), v40_40]) w41 fun v41_42 w43 =>
    xE Tryd.prog (sB .append #[25, 9] #[v41_42, v36_38]) w43 fun v43_44 w45 =>
    xP Tryd.prog (sBin .add 3 (vs33.getD 1 undef) (.int .i64 1)) fun v44_46 =>
    J32 [v43_44, v44_46] w45) (
      R (.returned (vs33.getD 0 undef)) w35)))
theorem C_gram_written {a0 : Value} {a1 : Value} {w : World} {R : Ending → World → Prop} (h : S_gram_written a0 a1 w R) : Calls Tryd.prog 43 #[a0, a1] w R :=
  funcVC_sound (an := A_gram_written) (args := [a0, a1]) (k := 2) Tryd.func43 (by kernel_rfl) rfl
    (Eq.mp (show S_gram_written a0 a1 w R = funcVC Tryd.prog Tryd.f43 A_gram_written [a0, a1] w R by kernel_rfl) h)

/-- (*stave/gram.cursor).value -/
def A_gram_cursor_value : Ann := (.seq .nil (.seq .nil (.join [] (.seq .nil (.one (.seq .nil (.seq .nil (.seq .nil (.seq .nil (.seq .nil (.seq (.seq .nil (.one (.loop [36] (.seq .nil (.seq .nil (.seq (.one (.draw (.pre [0, 1, 2, 3, 4, 5, 6, 7, 8, 9] .nil) [0, 1, 0, 0, 8, 28, 60, 127, 255, 511])) .nil)))))) .nil)))))))) .nil)))
def S_gram_cursor_value (a0 : Value) (a1 : Value) (w : World) (R : Ending → World → Prop) : Prop :=
  xE Tryd.prog (sBox 23 a1) w fun v3_1 w2 =>
  xE Tryd.prog (sAlloc 32) w2 fun v4_3 w4 =>
  xE Tryd.prog (sAlloc 32) w4 fun v5_5 w6 =>
  xJoin (fun J7 =>
    xP Tryd.prog (sFA 23 v3_1 0) fun v6_8 =>
    xR Tryd.prog (sLoad 3 v6_8) w6 fun v7_9 =>
    xR Tryd.prog (sEq .eql 3 true v7_9 (.int .i64 1)) w6 fun v9_10 =>
    xIf v9_10 (
      xP Tryd.prog (sFA 23 v3_1 1) fun v11_11 =>
      xR Tryd.prog (sLoad 3 v11_11) w6 fun v12_12 =>
      xP Tryd.prog (sFA 23 v3_1 2) fun v13_13 =>
      xR Tryd.prog (sLoad 3 v13_13) w6 fun v14_14 =>
      xP Tryd.prog (sFA 23 v3_1 3) fun v15_15 =>
      xR Tryd.prog (sLoad 3 v15_15) w6 fun v16_16 =>
      xE Tryd.prog (sCall 65 #[a0, v12_12, v14_14, v16_16]) w6 fun v17_17 w18 =>
      xP Tryd.prog (sFA 32 v5_5 0) fun v18_19 =>
      xE Tryd.prog (sStore 3 v18_19 v17_17) w18 fun _ w20 =>
      J7 [] w20) (
      xR Tryd.prog (sEq .eql 3 true v7_9 (.int .i64 2)) w6 fun v20_21 =>
      xIf v20_21 (
        xP Tryd.prog (sFA 23 v3_1 2) fun v22_22 =>
        xR Tryd.prog (sLoad 3 v22_22) w6 fun v23_23 =>
        xP Tryd.prog (sFA 23 v3_1 3) fun v24_24 =>
        xR Tryd.prog (sLoad 3 v24_24) w6 fun v25_25 =>
        xE Tryd.prog (sCall 66 #[a0, v23_23, v25_25]) w6 fun v26_26 w27 =>
        xP Tryd.prog (sFA 32 v5_5 1) fun v27_28 =>
        xE Tryd.prog (sStore 9 v27_28 v26_26) w27 fun _ w29 =>
        J7 [] w29) (
        xR Tryd.prog (sEq .eql 3 true v7_9 (.int .i64 3)) w6 fun v29_30 =>
        xIf v29_30 (
          xP Tryd.prog (sFA 23 v3_1 2) fun v31_31 =>
          xR Tryd.prog (sLoad 3 v31_31) w6 fun v32_32 =>
          xP Tryd.prog (sFA 23 v3_1 3) fun v33_33 =>
          xR Tryd.prog (sLoad 3 v33_33) w6 fun v34_34 =>
          xE Tryd.prog (sCall 65 #[a0, (.int .i64 1), v32_32, v34_34]) w6 fun v35_35 w36 =>
          xLoop [(.int .i64 0)] w36 fun J37 vs38 _ w40 =>
            xP Tryd.prog (sBin .lss 3 (vs38.getD 0 undef) v35_35) fun v37_41 =>
            xIf v37_41 (
              xP Tryd.prog (sFA 32 v5_5 2) fun v38_42 =>
            xR Tryd.prog (sLoad 30 v38_42) (w40.drew) fun v39_43 =>
            xP Tryd.prog (sFA 23 v3_1 4) fun v41_44 =>
            xR Tryd.prog (sLoad 3 v41_44) (w40.drew) fun v42_45 =>
            xE Tryd.prog (sCall 66 #[a0, (.int .i64 0), v42_45]) (w40.drew) fun v43_46 w47 =>
            xStill Tryd.prog (sLoad 30 v38_42) v39_43 w47 <|
            xE Tryd.prog (sBuildSlice 30 1 #[(0, v43_46)]) w47 fun v44_48 w49 =>
            xStill Tryd.prog (sLoad 30 v38_42) v39_43 w49 <|
            xE Tryd.prog (sB .append #[30, 30] #[v39_43, v44_48]) w49 fun v45_50 w51 =>
            xP Tryd.prog (sFA 32 v5_5 2) fun v46_52 =>
            xE Tryd.prog (sStore 30 v46_52 v45_50) w51 fun _ w53 =>
            xP Tryd.prog (sBin .add 3 (vs38.getD 0 undef) (.int .i64 1)) fun v47_54 =>
            J37 [v47_54] w53) (
              J7 [] w40)) (
          J7 [] w6)))) fun _ _ w57 =>
  xR Tryd.prog (sLoad 32 v5_5) w57 fun v48_58 =>
  xE Tryd.prog (sStore 32 v4_3 v48_58) w57 fun _ w59 =>
  xR Tryd.prog (sLoad 32 v4_3) w59 fun r60 => R (.returned r60) w59
theorem C_gram_cursor_value {a0 : Value} {a1 : Value} {w : World} {R : Ending → World → Prop} (h : S_gram_cursor_value a0 a1 w R) : Calls Tryd.prog 44 #[a0, a1] w R :=
  funcVC_sound (an := A_gram_cursor_value) (args := [a0, a1]) (k := 2) Tryd.func44 (by kernel_rfl) rfl
    (Eq.mp (show S_gram_cursor_value a0 a1 w R = funcVC Tryd.prog Tryd.f44 A_gram_cursor_value [a0, a1] w R by kernel_rfl) h)

/-- stave/fault.faults -/
def A_fault_faults : Ann := (.seq .nil (.seq .nil (.seq .nil (.seq (.one (.loop [0, 3] .nil)) .nil))))
def S_fault_faults (a0 : Value) (w : World) (R : Ending → World → Prop) : Prop :=
  xE Tryd.prog (sAlloc 85) w fun v4_1 w2 =>
  xLoop [a0, (.slice none 0 0)] w2 fun J3 vs4 _ w6 =>
    xP Tryd.prog (sIface 106 v4_1) fun v6_7 =>
    xE Tryd.prog (sCall 46 #[(vs4.getD 0 undef), v6_7]) w6 fun v7_8 w9 =>
    xIf v7_8 (
      xR Tryd.prog (sLoad 85 v4_1) w9 fun v9_10 =>
    xE Tryd.prog (sBuildSlice 82 1 #[(0, v9_10)]) w9 fun v10_11 w12 =>
    xE Tryd.prog (sB .append #[82, 82] #[(vs4.getD 1 undef), v10_11]) w12 fun v11_13 w14 =>
    xP Tryd.prog (sFA 85 v4_1 2) fun v12_15 =>
    xR Tryd.prog (sLoad 27 v12_15) w14 fun v13_16 =>
    J3 [v13_16, v11_13] w14) (
      R (.returned (vs4.getD 1 undef)) w9)
theorem C_fault_faults {a0 : Value} {w : World} {R : Ending → World → Prop} (h : S_fault_faults a0 w R) : Calls Tryd.prog 45 #[a0] w R :=
  funcVC_sound (an := A_fault_faults) (args := [a0]) (k := 1) Tryd.func45 (by kernel_rfl) rfl
    (Eq.mp (show S_fault_faults a0 w R = funcVC Tryd.prog Tryd.f45 A_fault_faults [a0] w R by kernel_rfl) h)

/-- errors.As -/
def A_errors_As : Ann := (.seq .nil (.seq .nil (.join [] .nil (.seq .nil (.seq .nil (.join [] (.join [23] .nil .nil) (.seq .nil (.join [] (.join [35] .nil .nil) .nil))))))))
def S_errors_As (a0 : Value) (a1 : Value) (w : World) (R : Ending → World → Prop) : Prop :=
  xR Tryd.prog (sEq .eql 27 true a0 (.nilIface)) w fun v9_1 =>
  xIf v9_1 (
    R (.returned (.bool false)) w) (
    xJoin (fun J2 =>
    xR Tryd.prog (sEq .eql 20 true a1 (.nilIface)) w fun v11_3 =>
    xIf v11_3 (
      xP Tryd.prog (sIface 9 (.string (ByteArray.mk #[101, 114, 114, 111, 114, 115, 58, 32, 116, 97, 114, 103, 101, 116, 32, 99, 97, 110, 110, 111, 116, 32, 98, 101, 32, 110, 105, 108]))) fun v12_4 =>
      xE Tryd.prog (sPanic v12_4) w fun _ w5 =>
      J2 [] w5) (
      J2 [] w)) fun _ _ w8 =>
  xE Tryd.prog (sCall 67 #[a1]) w8 fun v14_9 w10 =>
  xE Tryd.prog (sAlloc 110) w10 fun v5_11 w12 =>
  xE Tryd.prog (sStore 110 v5_11 v14_9) w12 fun _ w13 =>
  xR Tryd.prog (sLoad 110 v5_11) w13 fun v15_14 =>
  xE Tryd.prog (sCall 68 #[v15_14]) w13 fun v16_15 w16 =>
  xJoin (fun J17 =>
    xJoin (fun J18 =>
      xE Tryd.prog (sInvoke "Kind" #[v16_15]) w16 fun v18_19 w20 =>
      xR Tryd.prog (sEq .neq 115 true v18_19 (.int .u8 22)) w20 fun v19_21 =>
      xIf v19_21 (
      J18 [(.bool true)] w20) (
      xR Tryd.prog (sLoad 110 v5_11) w20 fun v21_22 =>
      xE Tryd.prog (sCall 69 #[v21_22]) w20 fun v22_23 w24 =>
      J18 [v22_23] w24)) fun vs25 _ w27 =>
    xIf (vs25.getD 0 undef) (
      xP Tryd.prog (sIface 9 (.string (ByteArray.mk #[101, 114, 114, 111, 114, 115, 58, 32, 116, 97, 114, 103, 101, 116, 32, 109, 117, 115, 116, 32, 98, 101, 32, 97, 32, 110, 111, 110, 45, 110, 105, 108, 32, 112, 111, 105, 110, 116, 101, 114]))) fun v24_28 =>
      xE Tryd.prog (sPanic v24_28) w27 fun _ w29 =>
      J17 [] w29) (
      J17 [] w27)) fun _ _ w32 =>
  xE Tryd.prog (sInvoke "Elem" #[v16_15]) w32 fun v26_33 w34 =>
  xJoin (fun J35 =>
    xJoin (fun J36 =>
      xE Tryd.prog (sInvoke "Kind" #[v26_33]) w34 fun v28_37 w38 =>
      xR Tryd.prog (sEq .neq 115 true v28_37 (.int .u8 20)) w38 fun v29_39 =>
      xIf v29_39 (
      xR Tryd.prog (sLoad 113 (.pointer (some ⟨0, 0, none⟩))) w38 fun v32_40 =>
      xE Tryd.prog (sInvoke "Implements" #[v26_33, v32_40]) w38 fun v33_41 w42 =>
      xP Tryd.prog (sUn .not v33_41) fun v34_43 =>
      J36 [v34_43] w42) (
      J36 [(.bool false)] w38)) fun vs44 _ w46 =>
    xIf (vs44.getD 0 undef) (
      xP Tryd.prog (sIface 9 (.string (ByteArray.mk #[101, 114, 114, 111, 114, 115, 58, 32, 42, 116, 97, 114, 103, 101, 116, 32, 109, 117, 115, 116, 32, 98, 101, 32, 105, 110, 116, 101, 114, 102, 97, 99, 101, 32, 111, 114, 32, 105, 109, 112, 108, 101, 109, 101, 110, 116, 32, 101, 114, 114, 111, 114]))) fun v36_47 =>
      xE Tryd.prog (sPanic v36_47) w46 fun _ w48 =>
      J35 [] w48) (
      J35 [] w46)) fun _ _ w51 =>
  xR Tryd.prog (sLoad 110 v5_11) w51 fun v39_52 =>
  xE Tryd.prog (sCall 70 #[a0, a1, v39_52, v26_33]) w51 fun v41_53 w54 =>
  R (.returned v41_53) w54)
theorem C_errors_As {a0 : Value} {a1 : Value} {w : World} {R : Ending → World → Prop} (h : S_errors_As a0 a1 w R) : Calls Tryd.prog 46 #[a0, a1] w R :=
  funcVC_sound (an := A_errors_As) (args := [a0, a1]) (k := 2) Tryd.func46 (by kernel_rfl) rfl
    (Eq.mp (show S_errors_As a0 a1 w R = funcVC Tryd.prog Tryd.f46 A_errors_As [a0, a1] w R by kernel_rfl) h)

/-- errors.Is -/
def A_errors_Is : Ann := (.seq .nil (.seq (.join [11] .nil .nil) .nil))
def S_errors_Is (a0 : Value) (a1 : Value) (w : World) (R : Ending → World → Prop) : Prop :=
  xJoin (fun J1 =>
    xR Tryd.prog (sEq .eql 27 true a0 (.nilIface)) w fun v7_2 =>
    xIf v7_2 (
    J1 [(.bool true)] w) (
    xR Tryd.prog (sEq .eql 27 true a1 (.nilIface)) w fun v10_3 =>
    J1 [v10_3] w)) fun vs4 _ w6 =>
  xIf (vs4.getD 0 undef) (
    xR Tryd.prog (sEq .eql 27 false a0 a1) w6 fun v14_7 =>
    R (.returned v14_7) w6) (
    xE Tryd.prog (sCall 71 #[a1]) w6 fun v16_8 w9 =>
  xE Tryd.prog (sInvoke "Comparable" #[v16_8]) w9 fun v17_10 w11 =>
  xE Tryd.prog (sCall 72 #[a0, a1, v17_10]) w11 fun v21_12 w13 =>
  R (.returned v21_12) w13)
theorem C_errors_Is {a0 : Value} {a1 : Value} {w : World} {R : Ending → World → Prop} (h : S_errors_Is a0 a1 w R) : Calls Tryd.prog 47 #[a0, a1] w R :=
  funcVC_sound (an := A_errors_Is) (args := [a0, a1]) (k := 2) Tryd.func47 (by kernel_rfl) rfl
    (Eq.mp (show S_errors_Is a0 a1 w R = funcVC Tryd.prog Tryd.f47 A_errors_Is [a0, a1] w R by kernel_rfl) h)

/-- slices.Contains[[]int,int] -/
def A_slices_Contains_int : Ann := .nil
def S_slices_Contains_int (a0 : Value) (a1 : Value) (w : World) (R : Ending → World → Prop) : Prop :=
  xE Tryd.prog (sCall 73 #[a0, a1]) w fun v7_1 w2 =>
  xP Tryd.prog (sBin .geq 3 v7_1 (.int .i64 0)) fun v8_3 =>
  R (.returned v8_3) w2
theorem C_slices_Contains_int {a0 : Value} {a1 : Value} {w : World} {R : Ending → World → Prop} (h : S_slices_Contains_int a0 a1 w R) : Calls Tryd.prog 48 #[a0, a1] w R :=
  funcVC_sound (an := A_slices_Contains_int) (args := [a0, a1]) (k := 2) Tryd.func48 (by kernel_rfl) rfl
    (Eq.mp (show S_slices_Contains_int a0 a1 w R = funcVC Tryd.prog Tryd.f48 A_slices_Contains_int [a0, a1] w R by kernel_rfl) h)

/-- stave/staveref1.RightFields -/
def A_staveref1_RightFields : Ann := (.seq .nil (.seq (.seq .nil (.one (.loop [7] .nil))) .nil))
def S_staveref1_RightFields (a0 : Value) (w : World) (R : Ending → World → Prop) : Prop :=
  xP Tryd.prog (sB .len #[24] #[a0]) fun v6_1 =>
  xLoop [(.int .i64 0)] w fun J2 vs3 _ w5 =>
    xP Tryd.prog (sBin .lss 3 (vs3.getD 0 undef) v6_1) fun v8_6 =>
    xIf v8_6 (
      xP Tryd.prog (sIA 24 a0 (vs3.getD 0 undef)) fun v10_7 =>
    xR Tryd.prog (sLoad 23 v10_7) w5 fun v11_8 =>
    xE Tryd.prog (sAlloc 23) w5 fun v4_9 w10 =>
    xE Tryd.prog (sStore 23 v4_9 v11_8) w10 fun _ w11 =>
    xR Tryd.prog (sLoad 23 v4_9) w11 fun v12_12 =>
    xE Tryd.prog (sCall 24 #[v12_12]) w11 fun v13_13 w14 =>
    xP Tryd.prog (sUn .not v13_13) fun v14_15 =>
    xIf v14_15 (
      R (.returned (vs3.getD 0 undef)) w14) (
      xP Tryd.prog (sBin .add 3 (vs3.getD 0 undef) (.int .i64 1)) fun v16_16 =>
    J2 [v16_16] w14)) (
      R (.returned (.int .i64 (-1))) w5)
theorem C_staveref1_RightFields {a0 : Value} {w : World} {R : Ending → World → Prop} (h : S_staveref1_RightFields a0 w R) : Calls Tryd.prog 49 #[a0] w R :=
  funcVC_sound (an := A_staveref1_RightFields) (args := [a0]) (k := 1) Tryd.func49 (by kernel_rfl) rfl
    (Eq.mp (show S_staveref1_RightFields a0 w R = funcVC Tryd.prog Tryd.f49 A_staveref1_RightFields [a0] w R by kernel_rfl) h)

/-- stave/staveref1.fits -/
def A_staveref1_fits : Ann := (.seq .nil (.seq .nil (.seq (.seq .nil (.one (.loop [64] .nil))) .nil)))
def S_staveref1_fits (a0 : Value) (a1 : Value) (w : World) (R : Ending → World → Prop) : Prop :=
  xE Tryd.prog (sBox 23 a0) w fun v2_1 w2 =>
  xE Tryd.prog (sBox 32 a1) w2 fun v3_3 w4 =>
  xP Tryd.prog (sFA 23 v2_1 0) fun v7_5 =>
  xR Tryd.prog (sLoad 3 v7_5) w4 fun v8_6 =>
  xR Tryd.prog (sEq .eql 3 true v8_6 (.int .i64 1)) w4 fun v10_7 =>
  xIf v10_7 (
    xP Tryd.prog (sFA 32 v3_3 0) fun v11_8 =>
    xR Tryd.prog (sLoad 3 v11_8) w4 fun v12_9 =>
    xP Tryd.prog (sFA 23 v2_1 2) fun v13_10 =>
    xR Tryd.prog (sLoad 3 v13_10) w4 fun v14_11 =>
    xP Tryd.prog (sBin .geq 3 v12_9 v14_11) fun v15_12 =>
    xIf v15_12 (
    xP Tryd.prog (sFA 32 v3_3 0) fun v17_13 =>
    xR Tryd.prog (sLoad 3 v17_13) w4 fun v18_14 =>
    xP Tryd.prog (sFA 23 v2_1 3) fun v19_15 =>
    xR Tryd.prog (sLoad 3 v19_15) w4 fun v20_16 =>
    xP Tryd.prog (sBin .leq 3 v18_14 v20_16) fun v21_17 =>
    xIf v21_17 (
    xP Tryd.prog (sFA 32 v3_3 1) fun v24_18 =>
    xR Tryd.prog (sLoad 9 v24_18) w4 fun v25_19 =>
    xR Tryd.prog (sEq .eql 9 true v25_19 (.string (ByteArray.mk #[]))) w4 fun v26_20 =>
    xIf v26_20 (
    xP Tryd.prog (sFA 32 v3_3 2) fun v29_21 =>
    xR Tryd.prog (sLoad 30 v29_21) w4 fun v30_22 =>
    xP Tryd.prog (sB .len #[30] #[v30_22]) fun v31_23 =>
    xR Tryd.prog (sEq .eql 3 true v31_23 (.int .i64 0)) w4 fun v32_24 =>
    R (.returned v32_24) w4) (
    R (.returned (.bool false)) w4)) (
    R (.returned (.bool false)) w4)) (
    R (.returned (.bool false)) w4)) (
    xR Tryd.prog (sEq .eql 3 true v8_6 (.int .i64 2)) w4 fun v35_25 =>
    xIf v35_25 (
      xP Tryd.prog (sFA 32 v3_3 1) fun v36_26 =>
      xR Tryd.prog (sLoad 9 v36_26) w4 fun v37_27 =>
      xP Tryd.prog (sB .len #[9] #[v37_27]) fun v38_28 =>
      xP Tryd.prog (sFA 23 v2_1 2) fun v39_29 =>
      xR Tryd.prog (sLoad 3 v39_29) w4 fun v40_30 =>
      xP Tryd.prog (sBin .geq 3 v38_28 v40_30) fun v41_31 =>
      xIf v41_31 (
      xP Tryd.prog (sFA 32 v3_3 1) fun v43_32 =>
      xR Tryd.prog (sLoad 9 v43_32) w4 fun v44_33 =>
      xP Tryd.prog (sB .len #[9] #[v44_33]) fun v45_34 =>
      xP Tryd.prog (sFA 23 v2_1 3) fun v46_35 =>
      xR Tryd.prog (sLoad 3 v46_35) w4 fun v47_36 =>
      xP Tryd.prog (sBin .leq 3 v45_34 v47_36) fun v48_37 =>
      xIf v48_37 (
      xP Tryd.prog (sFA 32 v3_3 0) fun v51_38 =>
      xR Tryd.prog (sLoad 3 v51_38) w4 fun v52_39 =>
      xR Tryd.prog (sEq .eql 3 true v52_39 (.int .i64 0)) w4 fun v53_40 =>
      xIf v53_40 (
      xP Tryd.prog (sFA 32 v3_3 2) fun v56_41 =>
      xR Tryd.prog (sLoad 30 v56_41) w4 fun v57_42 =>
      xP Tryd.prog (sB .len #[30] #[v57_42]) fun v58_43 =>
      xR Tryd.prog (sEq .eql 3 true v58_43 (.int .i64 0)) w4 fun v59_44 =>
      R (.returned v59_44) w4) (
      R (.returned (.bool false)) w4)) (
      R (.returned (.bool false)) w4)) (
      R (.returned (.bool false)) w4)) (
      xP Tryd.prog (sFA 32 v3_3 2) fun v61_45 =>
  xR Tryd.prog (sLoad 30 v61_45) w4 fun v62_46 =>
  xP Tryd.prog (sB .len #[30] #[v62_46]) fun v63_47 =>
  xLoop [(.int .i64 0)] w4 fun J48 vs49 _ w51 =>
    xP Tryd.prog (sBin .lss 3 (vs49.getD 0 undef) v63_47) fun v65_52 =>
    xIf v65_52 (
      xP Tryd.prog (sIA 30 v62_46 (vs49.getD 0 undef)) fun v66_53 =>
    xR Tryd.prog (sLoad 9 v66_53) w51 fun v67_54 =>
    xP Tryd.prog (sB .len #[9] #[v67_54]) fun v69_55 =>
    xP Tryd.prog (sFA 23 v2_1 4) fun v70_56 =>
    xR Tryd.prog (sLoad 3 v70_56) w51 fun v71_57 =>
    xP Tryd.prog (sBin .gtr 3 v69_55 v71_57) fun v72_58 =>
    xIf v72_58 (
      R (.returned (.bool false)) w51) (
      xP Tryd.prog (sBin .add 3 (vs49.getD 0 undef) (.int .i64 1)) fun v73_59 =>
    J48 [v73_59] w51)) (
      xP Tryd.prog (sFA 32 v3_3 2) fun v74_60 =>
  xR Tryd.prog (sLoad 30 v74_60) w51 fun v75_61 =>
  xP Tryd.prog (sB .len #[30] #[v75_61]) fun v76_62 =>
  xP Tryd.prog (sFA 23 v2_1 2) fun v77_63 =>
  xR Tryd.prog (sLoad 3 v77_63) w51 fun v78_64 =>
  xP Tryd.prog (sBin .geq 3 v76_62 v78_64) fun v79_65 =>
  xIf v79_65 (
  xP Tryd.prog (sFA 32 v3_3 2) fun v81_66 =>
  xR Tryd.prog (sLoad 30 v81_66) w51 fun v82_67 =>
  xP Tryd.prog (sB .len #[30] #[v82_67]) fun v83_68 =>
  xP Tryd.prog (sFA 23 v2_1 3) fun v84_69 =>
  xR Tryd.prog (sLoad 3 v84_69) w51 fun v85_70 =>
  xP Tryd.prog (sBin .leq 3 v83_68 v85_70) fun v86_71 =>
  xIf v86_71 (
  xP Tryd.prog (sFA 32 v3_3 0) fun v89_72 =>
  xR Tryd.prog (sLoad 3 v89_72) w51 fun v90_73 =>
  xR Tryd.prog (sEq .eql 3 true v90_73 (.int .i64 0)) w51 fun v91_74 =>
  xIf v91_74 (
  xP Tryd.prog (sFA 32 v3_3 1) fun v94_75 =>
  xR Tryd.prog (sLoad 9 v94_75) w51 fun v95_76 =>
  xR Tryd.prog (sEq .eql 9 true v95_76 (.string (ByteArray.mk #[]))) w51 fun v96_77 =>
  R (.returned v96_77) w51) (
  R (.returned (.bool false)) w51)) (
  R (.returned (.bool false)) w51)) (
  R (.returned (.bool false)) w51))))
theorem C_staveref1_fits {a0 : Value} {a1 : Value} {w : World} {R : Ending → World → Prop} (h : S_staveref1_fits a0 a1 w R) : Calls Tryd.prog 50 #[a0, a1] w R :=
  funcVC_sound (an := A_staveref1_fits) (args := [a0, a1]) (k := 2) Tryd.func50 (by kernel_rfl) rfl
    (Eq.mp (show S_staveref1_fits a0 a1 w R = funcVC Tryd.prog Tryd.f50 A_staveref1_fits [a0, a1] w R by kernel_rfl) h)

/-- stave/staveref1.Num -/
def A_staveref1_Num : Ann := (.seq .nil (.seq .nil (.seq (.seq .nil (.one (.loop [7, 8] .nil))) .nil)))
def S_staveref1_Num (a0 : Value) (a1 : Value) (a2 : Value) (w : World) (R : Ending → World → Prop) : Prop :=
  xE Tryd.prog (sBuildSlice 25 0 #[]) w fun v9_1 w2 =>
  xE Tryd.prog (sB .append #[25, 25] #[v9_1, a0]) w2 fun v11_3 w4 =>
  xLoop [v11_3, (.int .i64 0)] w4 fun J5 vs6 _ w8 =>
    xP Tryd.prog (sBin .lss 3 (vs6.getD 1 undef) a2) fun v14_9 =>
    xIf v14_9 (
      xP Tryd.prog (sBin .mul 3 (.int .i64 8) (vs6.getD 1 undef)) fun v20_10 =>
    xP Tryd.prog (sBin .shr 92 a1 v20_10) fun v21_11 =>
    xP Tryd.prog (sConv 92 5 v21_11) fun v22_12 =>
    xE Tryd.prog (sBuildSlice 25 1 #[(0, v22_12)]) w8 fun v23_13 w14 =>
    xE Tryd.prog (sB .append #[25, 25] #[(vs6.getD 0 undef), v23_13]) w14 fun v24_15 w16 =>
    xP Tryd.prog (sBin .add 3 (vs6.getD 1 undef) (.int .i64 1)) fun v16_17 =>
    J5 [v24_15, v16_17] w16) (
      R (.returned (vs6.getD 0 undef)) w8)
theorem C_staveref1_Num {a0 : Value} {a1 : Value} {a2 : Value} {w : World} {R : Ending → World → Prop} (h : S_staveref1_Num a0 a1 a2 w R) : Calls Tryd.prog 51 #[a0, a1, a2] w R :=
  funcVC_sound (an := A_staveref1_Num) (args := [a0, a1, a2]) (k := 3) Tryd.func51 (by kernel_rfl) rfl
    (Eq.mp (show S_staveref1_Num a0 a1 a2 w R = funcVC Tryd.prog Tryd.f51 A_staveref1_Num [a0, a1, a2] w R by kernel_rfl) h)

/-- stave/staveref1.text -/
def A_staveref1_text : Ann := .nil
def S_staveref1_text (a0 : Value) (a1 : Value) (w : World) (R : Ending → World → Prop) : Prop :=
  xP Tryd.prog (sB .len #[9] #[a1]) fun v7_1 =>
  xP Tryd.prog (sConv 3 92 v7_1) fun v8_2 =>
  xE Tryd.prog (sCall 51 #[a0, v8_2, (.int .i64 2)]) w fun v9_3 w4 =>
  xE Tryd.prog (sB .append #[25, 9] #[v9_3, a1]) w4 fun v11_5 w6 =>
  R (.returned v11_5) w6
theorem C_staveref1_text {a0 : Value} {a1 : Value} {w : World} {R : Ending → World → Prop} (h : S_staveref1_text a0 a1 w R) : Calls Tryd.prog 52 #[a0, a1] w R :=
  funcVC_sound (an := A_staveref1_text) (args := [a0, a1]) (k := 2) Tryd.func52 (by kernel_rfl) rfl
    (Eq.mp (show S_staveref1_text a0 a1 w R = funcVC Tryd.prog Tryd.f52 A_staveref1_text [a0, a1] w R by kernel_rfl) h)

/-- stave/staveref1.Big -/
def A_staveref1_Big : Ann := (.seq .nil (.seq .nil (.seq (.seq .nil (.one (.loop [3, 4] .nil))) .nil)))
def S_staveref1_Big (a0 : Value) (w : World) (R : Ending → World → Prop) : Prop :=
  xP Tryd.prog (sB .len #[25] #[a0]) fun v6_1 =>
  xP Tryd.prog (sBin .sub 3 v6_1 (.int .i64 1)) fun v7_2 =>
  xLoop [(.int .u64 0), v7_2] w fun J3 vs4 _ w6 =>
    xP Tryd.prog (sBin .geq 3 (vs4.getD 1 undef) (.int .i64 0)) fun v9_7 =>
    xIf v9_7 (
      xP Tryd.prog (sBin .shl 92 (vs4.getD 0 undef) (.int .u64 8)) fun v13_8 =>
    xP Tryd.prog (sIA 25 a0 (vs4.getD 1 undef)) fun v16_9 =>
    xR Tryd.prog (sLoad 5 v16_9) w6 fun v17_10 =>
    xP Tryd.prog (sConv 5 92 v17_10) fun v18_11 =>
    xP Tryd.prog (sBin .or 92 v13_8 v18_11) fun v19_12 =>
    xP Tryd.prog (sBin .sub 3 (vs4.getD 1 undef) (.int .i64 1)) fun v11_13 =>
    J3 [v19_12, v11_13] w6) (
      R (.returned (vs4.getD 0 undef)) w6)
theorem C_staveref1_Big {a0 : Value} {w : World} {R : Ending → World → Prop} (h : S_staveref1_Big a0 w R) : Calls Tryd.prog 53 #[a0] w R :=
  funcVC_sound (an := A_staveref1_Big) (args := [a0]) (k := 1) Tryd.func53 (by kernel_rfl) rfl
    (Eq.mp (show S_staveref1_Big a0 w R = funcVC Tryd.prog Tryd.f53 A_staveref1_Big [a0] w R by kernel_rfl) h)

/-- stave/staveref1.one -/
def A_staveref1_one : Ann := (.seq .nil (.seq .nil (.seq .nil (.seq (.join [32] .nil .nil) .nil))))
def S_staveref1_one (a0 : Value) (a1 : Value) (a2 : Value) (a3 : Value) (w : World) (R : Ending → World → Prop) : Prop :=
  xP Tryd.prog (sB .len #[25] #[a0]) fun v13_1 =>
  xP Tryd.prog (sBin .sub 3 v13_1 a1) fun v15_2 =>
  xP Tryd.prog (sBin .lss 3 v15_2 (.int .i64 2)) fun v16_3 =>
  xIf v16_3 (
    R (.returned (.tuple #[(.string (ByteArray.mk #[])), a1, (.int .i64 3)])) w) (
    xP Tryd.prog (sBin .add 3 a1 (.int .i64 2)) fun v21_4 =>
  xP Tryd.prog (sSlice 25 a0 (some a1) (some v21_4) none) fun v22_5 =>
  xE Tryd.prog (sCall 53 #[v22_5]) w fun v23_6 w7 =>
  xP Tryd.prog (sConv 92 3 v23_6) fun v24_8 =>
  xJoin (fun J9 =>
    xP Tryd.prog (sBin .lss 3 v24_8 a2) fun v27_10 =>
    xIf v27_10 (
    J9 [(.bool true)] w7) (
    xP Tryd.prog (sBin .gtr 3 v24_8 a3) fun v31_11 =>
    J9 [v31_11] w7)) fun vs12 _ w14 =>
  xIf (vs12.getD 0 undef) (
    R (.returned (.tuple #[(.string (ByteArray.mk #[])), a1, (.int .i64 2)])) w14) (
    xP Tryd.prog (sB .len #[25] #[a0]) fun v36_15 =>
  xP Tryd.prog (sBin .sub 3 v36_15 a1) fun v38_16 =>
  xP Tryd.prog (sBin .sub 3 v38_16 (.int .i64 2)) fun v39_17 =>
  xP Tryd.prog (sBin .gtr 3 v24_8 v39_17) fun v40_18 =>
  xIf v40_18 (
    R (.returned (.tuple #[(.string (ByteArray.mk #[])), a1, (.int .i64 3)])) w14) (
    xP Tryd.prog (sBin .add 3 a1 (.int .i64 2)) fun v44_19 =>
  xP Tryd.prog (sBin .add 3 a1 (.int .i64 2)) fun v46_20 =>
  xP Tryd.prog (sBin .add 3 v46_20 v24_8) fun v48_21 =>
  xP Tryd.prog (sSlice 25 a0 (some v44_19) (some v48_21) none) fun v49_22 =>
  xE Tryd.prog (sConv 25 9 v49_22) w14 fun v50_23 w24 =>
  xP Tryd.prog (sBin .add 3 a1 (.int .i64 2)) fun v52_25 =>
  xP Tryd.prog (sBin .add 3 v52_25 v24_8) fun v54_26 =>
  R (.returned (.tuple #[v50_23, v54_26, (.int .i64 0)])) w24)))
theorem C_staveref1_one {a0 : Value} {a1 : Value} {a2 : Value} {a3 : Value} {w : World} {R : Ending → World → Prop} (h : S_staveref1_one a0 a1 a2 a3 w R) : Calls Tryd.prog 54 #[a0, a1, a2, a3] w R :=
  funcVC_sound (an := A_staveref1_one) (args := [a0, a1, a2, a3]) (k := 4) Tryd.func54 (by kernel_rfl) rfl
    (Eq.mp (show S_staveref1_one a0 a1 a2 a3 w R = funcVC Tryd.prog Tryd.f54 A_staveref1_one [a0, a1, a2, a3] w R by kernel_rfl) h)

/-- stave/stavebook.Same[string] -/
def A_stavebook_Same_string : Ann := (.seq .nil (.seq .nil (.seq (.seq .nil (.one (.loop [5] (.seq .nil (.seq (.one (.seq (.draw (.pre [0, 1, 2, 3, 4, 5, 6, 7, 8] .nil) [0, 0, 3, 7, 0, 0, 48, 112, 255]) .nil)) .nil))))) .nil)))
def S_stavebook_Same_string (a0 : Value) (a1 : Value) (w : World) (R : Ending → World → Prop) : Prop :=
  xP Tryd.prog (sB .len #[30] #[a0]) fun v7_1 =>
  xP Tryd.prog (sB .len #[30] #[a1]) fun v9_2 =>
  xR Tryd.prog (sEq .neq 3 false v7_1 v9_2) w fun v10_3 =>
  xIf v10_3 (
    R (.returned (.bool false)) w) (
    xLoop [(.int .i64 0)] w fun J4 vs5 _ w7 =>
    xP Tryd.prog (sB .len #[30] #[a0]) fun v13_8 =>
    xP Tryd.prog (sBin .lss 3 (vs5.getD 0 undef) v13_8) fun v14_9 =>
    xIf v14_9 (
      xP Tryd.prog (sIA 30 a0 (vs5.getD 0 undef)) fun v19_10 =>
    xR Tryd.prog (sLoad 9 v19_10) (w7.drew) fun v20_11 =>
    xP Tryd.prog (sIA 30 a1 (vs5.getD 0 undef)) fun v23_12 =>
    xR Tryd.prog (sLoad 9 v23_12) (w7.drew) fun v24_13 =>
    xR Tryd.prog (sEq .neq 9 false v20_11 v24_13) (w7.drew) fun v25_14 =>
    xIf v25_14 (
      R (.returned (.bool false)) (w7.drew)) (
      xP Tryd.prog (sBin .add 3 (vs5.getD 0 undef) (.int .i64 1)) fun v16_15 =>
    J4 [v16_15] (w7.drew))) (
      R (.returned (.bool true)) w7))
theorem C_stavebook_Same_string {a0 : Value} {a1 : Value} {w : World} {R : Ending → World → Prop} (h : S_stavebook_Same_string a0 a1 w R) : Calls Tryd.prog 55 #[a0, a1] w R :=
  funcVC_sound (an := A_stavebook_Same_string) (args := [a0, a1]) (k := 2) Tryd.func55 (by kernel_rfl) rfl
    (Eq.mp (show S_stavebook_Same_string a0 a1 w R = funcVC Tryd.prog Tryd.f55 A_stavebook_Same_string [a0, a1] w R by kernel_rfl) h)

/-- stave/batch.put -/
def A_batch_put : Ann := (.seq .nil (.seq (.draw (.pre [1, 2, 3, 4, 5, 6, 7, 8, 9, 10, 11, 12] (.alt 0 (.pre [13, 14, 15, 16, 17, 18] .nil) (.op 13 (.pre [0, 14, 15, 16, 17, 18] .nil)))) [0, 0, 2, 6, 0, 16, 48, 0, 128, 384, 0, 1024, 3072, 8190, 16383, 32767, 32767, 131071, 262143]) .nil))
def S_batch_put (a0 : Value) (w : World) (R : Ending → World → Prop) : Prop :=
  xE Tryd.prog (sBox 63 a0) w fun v1_1 w2 =>
  xP Tryd.prog (sFA 63 v1_1 0) fun v5_3 =>
  xR Tryd.prog (sLoad 3 v5_3) (w2.drew) fun v6_4 =>
  xP Tryd.prog (sBuild 32 #[(0, v6_4)]) fun v7_5 =>
  xP Tryd.prog (sFA 63 v1_1 1) fun v8_6 =>
  xR Tryd.prog (sLoad 3 v8_6) (w2.drew) fun v9_7 =>
  xP Tryd.prog (sBuild 32 #[(0, v9_7)]) fun v10_8 =>
  xP Tryd.prog (sFA 63 v1_1 2) fun v11_9 =>
  xR Tryd.prog (sLoad 3 v11_9) (w2.drew) fun v12_10 =>
  xP Tryd.prog (sBuild 32 #[(0, v12_10)]) fun v13_11 =>
  xP Tryd.prog (sFA 63 v1_1 3) fun v14_12 =>
  xR Tryd.prog (sLoad 30 v14_12) (w2.drew) fun v15_13 =>
  xP Tryd.prog (sBuild 32 #[(2, v15_13)]) fun v16_14 =>
  (xE Tryd.prog (sCall 57 #[]) (w2.drew) fun v4_15 w16 =>
  xStill Tryd.prog (sLoad 30 v14_12) v15_13 w16 <|
  xStill Tryd.prog (sLoad 3 v11_9) v12_10 w16 <|
  xStill Tryd.prog (sLoad 3 v8_6) v9_7 w16 <|
  xStill Tryd.prog (sLoad 3 v5_3) v6_4 w16 <|
  xE Tryd.prog (sBuildSlice 33 4 #[(0, v7_5), (1, v10_8), (2, v13_11), (3, v16_14)]) w16 fun v17_17 w18 =>
  xE Tryd.prog (sCall 16 #[v4_15, v17_17]) w18 fun v18_19 w20 =>
  xP Tryd.prog (sExtract v18_19 0) fun v19_21 =>
  xP Tryd.prog (sExtract v18_19 1) fun v20_22 =>
  R (.returned (.tuple #[v19_21, v20_22])) w20) ∧
  (xE Tryd.prog (sBuildSlice 33 4 #[(0, v7_5), (1, v10_8), (2, v13_11), (3, v16_14)]) (w2.drew) fun v17_23 w24 =>
  xE Tryd.prog (sCall 57 #[]) w24 fun v4_25 w26 =>
  xE Tryd.prog (sCall 16 #[v4_25, v17_23]) w26 fun v18_27 w28 =>
  xP Tryd.prog (sExtract v18_27 0) fun v19_29 =>
  xP Tryd.prog (sExtract v18_27 1) fun v20_30 =>
  R (.returned (.tuple #[v19_29, v20_30])) w28)
theorem C_batch_put {a0 : Value} {w : World} {R : Ending → World → Prop} (h : S_batch_put a0 w R) : Calls Tryd.prog 56 #[a0] w R :=
  funcVC_sound (an := A_batch_put) (args := [a0]) (k := 1) Tryd.func56 (by kernel_rfl) rfl
    (Eq.mp (show S_batch_put a0 w R = funcVC Tryd.prog Tryd.f56 A_batch_put [a0] w R by kernel_rfl) h)

/-- stave/batch.fields -/
def A_batch_fields : Ann := .nil
def S_batch_fields (w : World) (R : Ending → World → Prop) : Prop :=
  xP Tryd.prog (sBuild 23 #[(0, (.int .i64 1)), (1, (.int .i64 8)), (3, (.int .i64 1125899906842624))]) fun v1_1 =>
  xP Tryd.prog (sBuild 23 #[(0, (.int .i64 1)), (1, (.int .i64 4)), (3, (.int .i64 1048576))]) fun v2_2 =>
  xP Tryd.prog (sBuild 23 #[(0, (.int .i64 1)), (1, (.int .i64 8)), (3, (.int .i64 1099511627776))]) fun v3_3 =>
  xP Tryd.prog (sBuild 23 #[(0, (.int .i64 3)), (2, (.int .i64 1)), (3, (.int .i64 8)), (4, (.int .i64 60))]) fun v4_4 =>
  xE Tryd.prog (sBuildSlice 24 4 #[(0, v1_1), (1, v2_2), (2, v3_3), (3, v4_4)]) w fun v5_5 w6 =>
  R (.returned v5_5) w6
theorem C_batch_fields {w : World} {R : Ending → World → Prop} (h : S_batch_fields  w R) : Calls Tryd.prog 57 #[] w R :=
  funcVC_sound (an := A_batch_fields) (args := []) (k := 0) Tryd.func57 (by kernel_rfl) rfl
    (Eq.mp (show S_batch_fields  w R = funcVC Tryd.prog Tryd.f57 A_batch_fields [] w R by kernel_rfl) h)

/-- stave/staveref14.Grammar -/
def A_staveref14_Grammar : Ann := .nil
def S_staveref14_Grammar (w : World) (R : Ending → World → Prop) : Prop :=
  xP Tryd.prog (sBuild 23 #[(0, (.int .i64 1)), (1, (.int .i64 8)), (3, (.int .i64 1125899906842624))]) fun v1_1 =>
  xP Tryd.prog (sBuild 23 #[(0, (.int .i64 1)), (1, (.int .i64 4)), (3, (.int .i64 1048576))]) fun v2_2 =>
  xP Tryd.prog (sBuild 23 #[(0, (.int .i64 1)), (1, (.int .i64 8)), (3, (.int .i64 1099511627776))]) fun v3_3 =>
  xP Tryd.prog (sBuild 23 #[(0, (.int .i64 3)), (2, (.int .i64 1)), (3, (.int .i64 8)), (4, (.int .i64 60))]) fun v4_4 =>
  xE Tryd.prog (sBuildSlice 24 4 #[(0, v1_1), (1, v2_2), (2, v3_3), (3, v4_4)]) w fun v5_5 w6 =>
  R (.returned v5_5) w6
theorem C_staveref14_Grammar {w : World} {R : Ending → World → Prop} (h : S_staveref14_Grammar  w R) : Calls Tryd.prog 58 #[] w R :=
  funcVC_sound (an := A_staveref14_Grammar) (args := []) (k := 0) Tryd.func58 (by kernel_rfl) rfl
    (Eq.mp (show S_staveref14_Grammar  w R = funcVC Tryd.prog Tryd.f58 A_staveref14_Grammar [] w R by kernel_rfl) h)

/-- slices.IndexFunc[[]stave/api.Field,stave/api.Field] -/
def A_slices_IndexFunc_api_Field : Ann := (.seq .nil (.seq (.seq .nil (.one (.loop [8] .nil))) .nil))
def S_slices_IndexFunc_api_Field (a0 : Value) (a1 : Value) (w : World) (R : Ending → World → Prop) : Prop :=
  xP Tryd.prog (sB .len #[24] #[a0]) fun v7_1 =>
  xLoop [(.int .i64 0)] w fun J2 vs3 _ w5 =>
    xP Tryd.prog (sBin .lss 3 (vs3.getD 0 undef) v7_1) fun v9_6 =>
    xIf v9_6 (
      xP Tryd.prog (sIA 24 a0 (vs3.getD 0 undef)) fun v14_7 =>
    xR Tryd.prog (sLoad 23 v14_7) w5 fun v15_8 =>
    xE Tryd.prog (sCallV a1 #[v15_8]) w5 fun v16_9 w10 =>
    xIf v16_9 (
      R (.returned (vs3.getD 0 undef)) w10) (
      xP Tryd.prog (sBin .add 3 (vs3.getD 0 undef) (.int .i64 1)) fun v18_11 =>
    J2 [v18_11] w10)) (
      R (.returned (.int .i64 (-1))) w5)
theorem C_slices_IndexFunc_api_Field {a0 : Value} {a1 : Value} {w : World} {R : Ending → World → Prop} (h : S_slices_IndexFunc_api_Field a0 a1 w R) : Calls Tryd.prog 59 #[a0, a1] w R :=
  funcVC_sound (an := A_slices_IndexFunc_api_Field) (args := [a0, a1]) (k := 2) Tryd.func59 (by kernel_rfl) rfl
    (Eq.mp (show S_slices_IndexFunc_api_Field a0 a1 w R = funcVC Tryd.prog Tryd.f59 A_slices_IndexFunc_api_Field [a0, a1] w R by kernel_rfl) h)

/-- stave/gram.wrong$1 -/
def A_gram_wrongx1 : Ann := .nil
def S_gram_wrongx1 (a0 : Value) (w : World) (R : Ending → World → Prop) : Prop :=
  xE Tryd.prog (sBox 23 a0) w fun v1_1 w2 =>
  xR Tryd.prog (sLoad 23 v1_1) w2 fun v3_3 =>
  xE Tryd.prog (sCall 23 #[v3_3]) w2 fun v4_4 w5 =>
  xP Tryd.prog (sUn .not v4_4) fun v5_6 =>
  R (.returned v5_6) w5
theorem C_gram_wrongx1 {a0 : Value} {w : World} {R : Ending → World → Prop} (h : S_gram_wrongx1 a0 w R) : Calls Tryd.prog 60 #[a0] w R :=
  funcVC_sound (an := A_gram_wrongx1) (args := [a0]) (k := 1) Tryd.func60 (by kernel_rfl) rfl
    (Eq.mp (show S_gram_wrongx1 a0 w R = funcVC Tryd.prog Tryd.f60 A_gram_wrongx1 [a0] w R by kernel_rfl) h)

/-- stave/gram.in -/
def A_gram_in : Ann := .nil
def S_gram_in (a0 : Value) (a1 : Value) (w : World) (R : Ending → World → Prop) : Prop :=
  xE Tryd.prog (sBox 23 a0) w fun v2_1 w2 =>
  xP Tryd.prog (sFA 23 v2_1 2) fun v6_3 =>
  xR Tryd.prog (sLoad 3 v6_3) w2 fun v7_4 =>
  xP Tryd.prog (sBin .geq 3 a1 v7_4) fun v8_5 =>
  xIf v8_5 (
  xP Tryd.prog (sFA 23 v2_1 3) fun v11_6 =>
  xR Tryd.prog (sLoad 3 v11_6) w2 fun v12_7 =>
  xP Tryd.prog (sBin .leq 3 a1 v12_7) fun v13_8 =>
  R (.returned v13_8) w2) (
  R (.returned (.bool false)) w2)
theorem C_gram_in {a0 : Value} {a1 : Value} {w : World} {R : Ending → World → Prop} (h : S_gram_in a0 a1 w R) : Calls Tryd.prog 61 #[a0, a1] w R :=
  funcVC_sound (an := A_gram_in) (args := [a0, a1]) (k := 2) Tryd.func61 (by kernel_rfl) rfl
    (Eq.mp (show S_gram_in a0 a1 w R = funcVC Tryd.prog Tryd.f61 A_gram_in [a0, a1] w R by kernel_rfl) h)

/-- slices.ContainsFunc[[]string,string] -/
def A_slices_ContainsFunc_string : Ann := .nil
def S_slices_ContainsFunc_string (a0 : Value) (a1 : Value) (w : World) (R : Ending → World → Prop) : Prop :=
  xE Tryd.prog (sCall 74 #[a0, a1]) w fun v7_1 w2 =>
  xP Tryd.prog (sBin .geq 3 v7_1 (.int .i64 0)) fun v8_3 =>
  R (.returned v8_3) w2
theorem C_slices_ContainsFunc_string {a0 : Value} {a1 : Value} {w : World} {R : Ending → World → Prop} (h : S_slices_ContainsFunc_string a0 a1 w R) : Calls Tryd.prog 62 #[a0, a1] w R :=
  funcVC_sound (an := A_slices_ContainsFunc_string) (args := [a0, a1]) (k := 2) Tryd.func62 (by kernel_rfl) rfl
    (Eq.mp (show S_slices_ContainsFunc_string a0 a1 w R = funcVC Tryd.prog Tryd.f62 A_slices_ContainsFunc_string [a0, a1] w R by kernel_rfl) h)

/-- stave/gram.fits$1 -/
def A_gram_fitsx1 : Ann := .nil
def S_gram_fitsx1 (a0 : Value) (a1 : Value) (w : World) (R : Ending → World → Prop) : Prop :=
  xP Tryd.prog (sB .len #[9] #[a0]) fun v5_1 =>
  xP Tryd.prog (sFA 23 a1 4) fun v6_2 =>
  xR Tryd.prog (sLoad 3 v6_2) w fun v7_3 =>
  xP Tryd.prog (sBin .gtr 3 v5_1 v7_3) fun v8_4 =>
  R (.returned v8_4) w
theorem C_gram_fitsx1 {a0 : Value} {a1 : Value} {w : World} {R : Ending → World → Prop} (h : S_gram_fitsx1 a0 a1 w R) : Calls Tryd.prog 63 #[a0, a1] w R :=
  funcVC_sound (an := A_gram_fitsx1) (args := [a0, a1]) (k := 2) Tryd.func63 (by kernel_rfl) rfl
    (Eq.mp (show S_gram_fitsx1 a0 a1 w R = funcVC Tryd.prog Tryd.f63 A_gram_fitsx1 [a0, a1] w R by kernel_rfl) h)

/-- stave/gram.low -/
def A_gram_low : Ann := (.seq .nil (.seq .nil (.seq (.seq .nil (.one (.loop [11] .nil))) .nil)))
def S_gram_low (a0 : Value) (a1 : Value) (w : World) (R : Ending → World → Prop) : Prop :=
  xE Tryd.prog (sMakeSlice 25 a1 a1) w fun v8_1 w2 =>
  xP Tryd.prog (sB .len #[25] #[v8_1]) fun v10_3 =>
  xLoop [(.int .i64 0)] w2 fun J4 vs5 _ w7 =>
    xP Tryd.prog (sBin .lss 3 (vs5.getD 0 undef) v10_3) fun v12_8 =>
    xIf v12_8 (
      xP Tryd.prog (sBin .mul 3 (.int .i64 8) (vs5.getD 0 undef)) fun v18_9 =>
    xP Tryd.prog (sConv 3 90 v18_9) fun v19_10 =>
    xP Tryd.prog (sBin .shr 3 a0 v19_10) fun v20_11 =>
    xP Tryd.prog (sConv 3 5 v20_11) fun v21_12 =>
    xP Tryd.prog (sIA 25 v8_1 (vs5.getD 0 undef)) fun v22_13 =>
    xE Tryd.prog (sStore 5 v22_13 v21_12) w7 fun _ w14 =>
    xP Tryd.prog (sBin .add 3 (vs5.getD 0 undef) (.int .i64 1)) fun v23_15 =>
    J4 [v23_15] w14) (
      R (.returned v8_1) w7)
theorem C_gram_low {a0 : Value} {a1 : Value} {w : World} {R : Ending → World → Prop} (h : S_gram_low a0 a1 w R) : Calls Tryd.prog 64 #[a0, a1] w R :=
  funcVC_sound (an := A_gram_low) (args := [a0, a1]) (k := 2) Tryd.func64 (by kernel_rfl) rfl
    (Eq.mp (show S_gram_low a0 a1 w R = funcVC Tryd.prog Tryd.f64 A_gram_low [a0, a1] w R by kernel_rfl) h)

/-- (*stave/gram.cursor).num -/
def A_gram_cursor_num : Ann := (.seq .nil (.seq .nil (.seq (.seq (.draw (.pre [0, 1, 2, 3, 4, 5, 6, 7, 8, 9, 10, 11] .nil) [0, 1, 3, 7, 15, 0, 32, 96, 224, 511, 0, 2047]) .nil) (.seq .nil (.seq (.seq (.draw (.pre [0, 1, 2, 3, 4, 5, 6, 7, 8, 9, 10, 11, 12, 13, 14, 15, 16] .nil) [0, 1, 3, 7, 0, 16, 48, 112, 0, 256, 768, 1792, 0, 7936, 16383, 32767, 0]) (.one (.loop [9, 48] .nil))) (.seq (.join [71] .nil .nil) .nil))))))
def S_gram_cursor_num (a0 : Value) (a1 : Value) (a2 : Value) (a3 : Value) (w : World) (R : Ending → World → Prop) : Prop :=
  xP Tryd.prog (sNil a0) fun v13_1 =>
  xP Tryd.prog (sFA 80 v13_1 2) fun v14_2 =>
  xR Tryd.prog (sLoad 39 v14_2) w fun v15_3 =>
  xR Tryd.prog (sEq .neq 39 true v15_3 (.int .i64 0)) w fun v16_4 =>
  xIf v16_4 (
    R (.returned (.int .i64 0)) w) (
    xP Tryd.prog (sNil a0) fun v18_5 =>
  xP Tryd.prog (sFA 80 v18_5 0) fun v19_6 =>
  xR Tryd.prog (sLoad 25 v19_6) (w.drew) fun v20_7 =>
  xP Tryd.prog (sB .len #[25] #[v20_7]) fun v21_8 =>
  xP Tryd.prog (sNil a0) fun v23_9 =>
  xP Tryd.prog (sFA 80 v23_9 1) fun v24_10 =>
  xR Tryd.prog (sLoad 3 v24_10) (w.drew) fun v25_11 =>
  xP Tryd.prog (sBin .sub 3 v21_8 v25_11) fun v26_12 =>
  xP Tryd.prog (sBin .lss 3 v26_12 a1) fun v28_13 =>
  xIf v28_13 (
    xP Tryd.prog (sNil a0) fun v30_14 =>
    xP Tryd.prog (sFA 80 v30_14 2) fun v31_15 =>
    xE Tryd.prog (sStore 39 v31_15 (.int .i64 3)) (w.drew) fun _ w16 =>
    R (.returned (.int .i64 0)) w16) (
    xP Tryd.prog (sNil a0) fun v33_17 =>
  xP Tryd.prog (sFA 80 v33_17 0) fun v34_18 =>
  xR Tryd.prog (sLoad 25 v34_18) (w.drew.drew) fun v35_19 =>
  xP Tryd.prog (sNil a0) fun v37_20 =>
  xP Tryd.prog (sFA 80 v37_20 1) fun v38_21 =>
  xR Tryd.prog (sLoad 3 v38_21) (w.drew.drew) fun v39_22 =>
  xP Tryd.prog (sNil a0) fun v41_23 =>
  xP Tryd.prog (sFA 80 v41_23 1) fun v42_24 =>
  xR Tryd.prog (sLoad 3 v42_24) (w.drew.drew) fun v43_25 =>
  xP Tryd.prog (sBin .add 3 v43_25 a1) fun v45_26 =>
  xP Tryd.prog (sSlice 25 v35_19 (some v39_22) (some v45_26) none) fun v46_27 =>
  xP Tryd.prog (sB .len #[25] #[v46_27]) fun v47_28 =>
  xLoop [(.int .u64 0), (.int .i64 0)] (w.drew.drew) fun J29 vs30 _ w32 =>
    xP Tryd.prog (sBin .lss 3 (vs30.getD 1 undef) v47_28) fun v49_33 =>
    xIf v49_33 (
      xP Tryd.prog (sIA 25 v46_27 (vs30.getD 1 undef)) fun v51_34 =>
    xR Tryd.prog (sLoad 5 v51_34) w32 fun v52_35 =>
    xP Tryd.prog (sConv 5 92 v52_35) fun v55_36 =>
    xP Tryd.prog (sBin .mul 3 (.int .i64 8) (vs30.getD 1 undef)) fun v57_37 =>
    xP Tryd.prog (sConv 3 90 v57_37) fun v58_38 =>
    xP Tryd.prog (sBin .shl 92 v55_36 v58_38) fun v59_39 =>
    xP Tryd.prog (sBin .or 92 (vs30.getD 0 undef) v59_39) fun v60_40 =>
    xP Tryd.prog (sBin .add 3 (vs30.getD 1 undef) (.int .i64 1)) fun v61_41 =>
    J29 [v60_40, v61_41] w32) (
      xJoin (fun J42 =>
    xP Tryd.prog (sConv 3 92 a2) fun v64_43 =>
    xP Tryd.prog (sBin .lss 92 (vs30.getD 0 undef) v64_43) fun v65_44 =>
    xIf v65_44 (
    J42 [(.bool true)] w32) (
    xP Tryd.prog (sConv 3 92 a3) fun v69_45 =>
    xP Tryd.prog (sBin .gtr 92 (vs30.getD 0 undef) v69_45) fun v70_46 =>
    J42 [v70_46] w32)) fun vs47 _ w49 =>
  xIf (vs47.getD 0 undef) (
    xP Tryd.prog (sNil a0) fun v73_50 =>
    xP Tryd.prog (sFA 80 v73_50 2) fun v74_51 =>
    xE Tryd.prog (sStore 39 v74_51 (.int .i64 2)) w49 fun _ w52 =>
    R (.returned (.int .i64 0)) w52) (
    xP Tryd.prog (sNil a0) fun v76_53 =>
  xP Tryd.prog (sFA 80 v76_53 1) fun v77_54 =>
  xR Tryd.prog (sLoad 3 v77_54) w49 fun v78_55 =>
  xP Tryd.prog (sBin .add 3 v78_55 a1) fun v80_56 =>
  xP Tryd.prog (sNil a0) fun v81_57 =>
  xP Tryd.prog (sFA 80 v81_57 1) fun v82_58 =>
  xE Tryd.prog (sStore 3 v82_58 v80_56) w49 fun _ w59 =>
  xP Tryd.prog (sConv 92 3 (vs30.getD 0 undef)) fun v84_60 =>
  R (.returned v84_60) w59))))
theorem C_gram_cursor_num {a0 : Value} {a1 : Value} {a2 : Value} {a3 : Value} {w : World} {R : Ending → World → Prop} (h : S_gram_cursor_num a0 a1 a2 a3 w R) : Calls Tryd.prog 65 #[a0, a1, a2, a3] w R :=
  funcVC_sound (an := A_gram_cursor_num) (args := [a0, a1, a2, a3]) (k := 4) Tryd.func65 (by kernel_rfl) rfl
    (Eq.mp (show S_gram_cursor_num a0 a1 a2 a3 w R = funcVC Tryd.prog Tryd.f65 A_gram_cursor_num [a0, a1, a2, a3] w R by kernel_rfl) h)

/-- (*stave/gram.cursor).text -/
def A_gram_cursor_text : Ann := (.seq .nil (.seq .nil (.join [] (.join [30] (.draw (.pre [0, 1, 2, 3, 4, 5, 6, 7, 8, 9, 10, 11, 12, 13, 14, 15, 16, 17, 18] .nil) [0, 1, 3, 7, 15, 31, 63, 127, 255, 511, 1023, 63, 2111, 6207, 14399, 32767, 63, 131071, 262143]) .nil) (.seq .nil (.seq .nil (.seq (.draw (.pre [0, 1, 2, 3, 4, 5, 6, 7, 8, 9, 10, 11, 12, 13, 14, 15, 16] .nil) [0, 1, 3, 7, 0, 16, 48, 112, 0, 496, 0, 1024, 3072, 7168, 16383, 32767, 65535]) .nil))))))
def S_gram_cursor_text (a0 : Value) (a1 : Value) (a2 : Value) (w : World) (R : Ending → World → Prop) : Prop :=
  xE Tryd.prog (sCall 65 #[a0, (.int .i64 2), a1, a2]) w fun v11_1 w2 =>
  xJoin (fun J3 =>
    xJoin (fun J4 =>
      xP Tryd.prog (sNil a0) fun v13_5 =>
      xP Tryd.prog (sFA 80 v13_5 2) fun v14_6 =>
      xR Tryd.prog (sLoad 39 v14_6) (w2.drew) fun v15_7 =>
      xR Tryd.prog (sEq .eql 39 true v15_7 (.int .i64 0)) (w2.drew) fun v16_8 =>
      xIf v16_8 (
      xP Tryd.prog (sNil a0) fun v19_9 =>
      xP Tryd.prog (sFA 80 v19_9 0) fun v20_10 =>
      xR Tryd.prog (sLoad 25 v20_10) (w2.drew) fun v21_11 =>
      xP Tryd.prog (sB .len #[25] #[v21_11]) fun v22_12 =>
      xP Tryd.prog (sNil a0) fun v24_13 =>
      xP Tryd.prog (sFA 80 v24_13 1) fun v25_14 =>
      xR Tryd.prog (sLoad 3 v25_14) (w2.drew) fun v26_15 =>
      xP Tryd.prog (sBin .sub 3 v22_12 v26_15) fun v27_16 =>
      xP Tryd.prog (sBin .lss 3 v27_16 v11_1) fun v29_17 =>
      J4 [v29_17] (w2.drew)) (
      J4 [(.bool false)] (w2.drew))) fun vs18 _ w20 =>
    xIf (vs18.getD 0 undef) (
      xP Tryd.prog (sNil a0) fun v32_21 =>
      xP Tryd.prog (sFA 80 v32_21 2) fun v33_22 =>
      xE Tryd.prog (sStore 39 v33_22 (.int .i64 3)) w20 fun _ w23 =>
      J3 [] w23) (
      J3 [] w20)) fun _ _ w26 =>
  xP Tryd.prog (sNil a0) fun v35_27 =>
  xP Tryd.prog (sFA 80 v35_27 2) fun v36_28 =>
  xR Tryd.prog (sLoad 39 v36_28) w26 fun v37_29 =>
  xR Tryd.prog (sEq .neq 39 true v37_29 (.int .i64 0)) w26 fun v38_30 =>
  xIf v38_30 (
    R (.returned (.string (ByteArray.mk #[]))) w26) (
    xP Tryd.prog (sNil a0) fun v40_31 =>
  xP Tryd.prog (sFA 80 v40_31 1) fun v41_32 =>
  xR Tryd.prog (sLoad 3 v41_32) w26 fun v42_33 =>
  xP Tryd.prog (sBin .add 3 v42_33 v11_1) fun v44_34 =>
  xP Tryd.prog (sNil a0) fun v45_35 =>
  xP Tryd.prog (sFA 80 v45_35 1) fun v46_36 =>
  xE Tryd.prog (sStore 3 v46_36 v44_34) w26 fun _ w37 =>
  xP Tryd.prog (sNil a0) fun v48_38 =>
  xP Tryd.prog (sFA 80 v48_38 0) fun v49_39 =>
  xR Tryd.prog (sLoad 25 v49_39) (w37.drew) fun v50_40 =>
  xP Tryd.prog (sNil a0) fun v52_41 =>
  xP Tryd.prog (sFA 80 v52_41 1) fun v53_42 =>
  xR Tryd.prog (sLoad 3 v53_42) (w37.drew) fun v54_43 =>
  xP Tryd.prog (sBin .sub 3 v54_43 v11_1) fun v56_44 =>
  xP Tryd.prog (sNil a0) fun v58_45 =>
  xP Tryd.prog (sFA 80 v58_45 1) fun v59_46 =>
  xR Tryd.prog (sLoad 3 v59_46) (w37.drew) fun v60_47 =>
  xP Tryd.prog (sSlice 25 v50_40 (some v56_44) (some v60_47) none) fun v61_48 =>
  xE Tryd.prog (sConv 25 9 v61_48) (w37.drew) fun v62_49 w50 =>
  R (.returned v62_49) w50)
theorem C_gram_cursor_text {a0 : Value} {a1 : Value} {a2 : Value} {w : World} {R : Ending → World → Prop} (h : S_gram_cursor_text a0 a1 a2 w R) : Calls Tryd.prog 66 #[a0, a1, a2] w R :=
  funcVC_sound (an := A_gram_cursor_text) (args := [a0, a1, a2]) (k := 3) Tryd.func66 (by kernel_rfl) rfl
    (Eq.mp (show S_gram_cursor_text a0 a1 a2 w R = funcVC Tryd.prog Tryd.f66 A_gram_cursor_text [a0, a1, a2] w R by kernel_rfl) h)

/-- errors.as -/
def A_errors_as : Ann := (.seq .nil (.one (.loop [0] (.one (.seq .nil (.seq (.seq .nil (.join [35] .nil .nil)) (.seq .nil (.one (.seq .nil (.seq .nil (.seq .nil (.seq (.seq .nil (.seq (.seq .nil (.one (.loop [50] (.seq .nil (.seq .nil (.join [] .nil .nil)))))) .nil)) .nil))))))))))))
def S_errors_as (a0 : Value) (a1 : Value) (a2 : Value) (a3 : Value) (w : World) (R : Ending → World → Prop) : Prop :=
  xE Tryd.prog (sBox 110 a2) w fun v6_1 w2 =>
  xLoop [a0] w2 fun J3 vs4 _ w6 =>
    xE Tryd.prog (sCall 71 #[(vs4.getD 0 undef)]) w6 fun v17_7 w8 =>
    xE Tryd.prog (sInvoke "AssignableTo" #[v17_7, a3]) w8 fun v19_9 w10 =>
    xIf v19_9 (
      xR Tryd.prog (sLoad 110 v6_1) w10 fun v20_11 =>
      xE Tryd.prog (sCall 75 #[v20_11]) w10 fun v21_12 w13 =>
      xE Tryd.prog (sCall 67 #[(vs4.getD 0 undef)]) w13 fun v23_14 w15 =>
      xE Tryd.prog (sCall 76 #[v21_12, v23_14]) w15 fun _ w17 =>
      R (.returned (.bool true)) w17) (
      xP Tryd.prog (sAssert (vs4.getD 0 undef) 27 128 true) fun v27_18 =>
    xP Tryd.prog (sExtract v27_18 0) fun v28_19 =>
    xP Tryd.prog (sExtract v27_18 1) fun v29_20 =>
    xJoin (fun J21 =>
      xIf v29_20 (
      xE Tryd.prog (sInvoke "As" #[v28_19, a1]) w10 fun v34_22 w23 =>
      J21 [v34_22] w23) (
      J21 [(.bool false)] w10)) fun vs24 _ w26 =>
    xIf (vs24.getD 0 undef) (
      R (.returned (.bool true)) w26) (
      xP Tryd.prog (sAssert (vs4.getD 0 undef) 27 131 true) fun v37_27 =>
    xP Tryd.prog (sExtract v37_27 1) fun v38_28 =>
    xP Tryd.prog (sExtract v37_27 0) fun v39_29 =>
    xIf v38_28 (
      xE Tryd.prog (sInvoke "Unwrap" #[v39_29]) w26 fun v41_30 w31 =>
      xR Tryd.prog (sEq .eql 27 true v41_30 (.nilIface)) w31 fun v43_32 =>
      xIf v43_32 (
        R (.returned (.bool false)) w31) (
        J3 [v41_30] w31)) (
      xP Tryd.prog (sAssert (vs4.getD 0 undef) 27 133 true) fun v44_33 =>
      xP Tryd.prog (sExtract v44_33 1) fun v45_34 =>
      xP Tryd.prog (sExtract v44_33 0) fun v46_35 =>
      xIf v45_34 (
        xE Tryd.prog (sInvoke "Unwrap" #[v46_35]) w26 fun v48_36 w37 =>
        xP Tryd.prog (sB .len #[134] #[v48_36]) fun v49_38 =>
        xLoop [(.int .i64 0)] w37 fun J39 vs40 _ w42 =>
          xP Tryd.prog (sBin .lss 3 (vs40.getD 0 undef) v49_38) fun v51_43 =>
          xIf v51_43 (
            xJoin (fun J44 =>
            xP Tryd.prog (sIA 134 v48_36 (vs40.getD 0 undef)) fun v52_45 =>
            xR Tryd.prog (sLoad 27 v52_45) w42 fun v53_46 =>
            xR Tryd.prog (sEq .eql 27 true v53_46 (.nilIface)) w42 fun v55_47 =>
            xIf v55_47 (
              J44 [] w42) (
              xR Tryd.prog (sLoad 110 v6_1) w42 fun v58_48 =>
            xE Tryd.prog (sCall 70 #[v53_46, a1, v58_48, a3]) w42 fun v60_49 w50 =>
            xIf v60_49 (
              R (.returned (.bool true)) w50) (
              J44 [] w50))) fun _ _ w53 =>
          xP Tryd.prog (sBin .add 3 (vs40.getD 0 undef) (.int .i64 1)) fun v61_54 =>
          J39 [v61_54] w53) (
            R (.returned (.bool false)) w42)) (
        R (.returned (.bool false)) w26))))
theorem C_errors_as {a0 : Value} {a1 : Value} {a2 : Value} {a3 : Value} {w : World} {R : Ending → World → Prop} (h : S_errors_as a0 a1 a2 a3 w R) : Calls Tryd.prog 70 #[a0, a1, a2, a3] w R :=
  funcVC_sound (an := A_errors_as) (args := [a0, a1, a2, a3]) (k := 4) Tryd.func70 (by kernel_rfl) rfl
    (Eq.mp (show S_errors_as a0 a1 a2 a3 w R = funcVC Tryd.prog Tryd.f70 A_errors_as [a0, a1, a2, a3] w R by kernel_rfl) h)

/-- errors.is -/
def A_errors_is : Ann := (.seq .nil (.one (.loop [0] (.one (.seq (.join [19] .nil .nil) (.seq (.seq .nil (.join [30] .nil .nil)) (.seq .nil (.one (.seq .nil (.seq .nil (.seq .nil (.seq (.seq .nil (.seq (.seq .nil (.one (.loop [45] .nil))) .nil)) .nil))))))))))))
def S_errors_is (a0 : Value) (a1 : Value) (a2 : Value) (w : World) (R : Ending → World → Prop) : Prop :=
  xLoop [a0] w fun J1 vs2 _ w4 =>
    xJoin (fun J5 =>
      xIf a2 (
      xR Tryd.prog (sEq .eql 27 false (vs2.getD 0 undef) a1) w4 fun v18_6 =>
      J5 [v18_6] w4) (
      J5 [(.bool false)] w4)) fun vs7 _ w9 =>
    xIf (vs7.getD 0 undef) (
      R (.returned (.bool true)) w9) (
      xP Tryd.prog (sAssert (vs2.getD 0 undef) 27 136 true) fun v22_10 =>
    xP Tryd.prog (sExtract v22_10 0) fun v23_11 =>
    xP Tryd.prog (sExtract v22_10 1) fun v24_12 =>
    xJoin (fun J13 =>
      xIf v24_12 (
      xE Tryd.prog (sInvoke "Is" #[v23_11, a1]) w9 fun v29_14 w15 =>
      J13 [v29_14] w15) (
      J13 [(.bool false)] w9)) fun vs16 _ w18 =>
    xIf (vs16.getD 0 undef) (
      R (.returned (.bool true)) w18) (
      xP Tryd.prog (sAssert (vs2.getD 0 undef) 27 131 true) fun v32_19 =>
    xP Tryd.prog (sExtract v32_19 1) fun v33_20 =>
    xP Tryd.prog (sExtract v32_19 0) fun v34_21 =>
    xIf v33_20 (
      xE Tryd.prog (sInvoke "Unwrap" #[v34_21]) w18 fun v36_22 w23 =>
      xR Tryd.prog (sEq .eql 27 true v36_22 (.nilIface)) w23 fun v38_24 =>
      xIf v38_24 (
        R (.returned (.bool false)) w23) (
        J1 [v36_22] w23)) (
      xP Tryd.prog (sAssert (vs2.getD 0 undef) 27 133 true) fun v39_25 =>
      xP Tryd.prog (sExtract v39_25 1) fun v40_26 =>
      xP Tryd.prog (sExtract v39_25 0) fun v41_27 =>
      xIf v40_26 (
        xE Tryd.prog (sInvoke "Unwrap" #[v41_27]) w18 fun v43_28 w29 =>
        xP Tryd.prog (sB .len #[134] #[v43_28]) fun v44_30 =>
        xLoop [(.int .i64 0)] w29 fun J31 vs32 _ w34 =>
          xP Tryd.prog (sBin .lss 3 (vs32.getD 0 undef) v44_30) fun v46_35 =>
          xIf v46_35 (
            xP Tryd.prog (sIA 134 v43_28 (vs32.getD 0 undef)) fun v47_36 =>
          xR Tryd.prog (sLoad 27 v47_36) w34 fun v48_37 =>
          xE Tryd.prog (sCall 72 #[v48_37, a1, a2]) w34 fun v52_38 w39 =>
          xIf v52_38 (
            R (.returned (.bool true)) w39) (
            xP Tryd.prog (sBin .add 3 (vs32.getD 0 undef) (.int .i64 1)) fun v53_40 =>
          J31 [v53_40] w39)) (
            R (.returned (.bool false)) w34)) (
        R (.returned (.bool false)) w18))))
theorem C_errors_is {a0 : Value} {a1 : Value} {a2 : Value} {w : World} {R : Ending → World → Prop} (h : S_errors_is a0 a1 a2 w R) : Calls Tryd.prog 72 #[a0, a1, a2] w R :=
  funcVC_sound (an := A_errors_is) (args := [a0, a1, a2]) (k := 3) Tryd.func72 (by kernel_rfl) rfl
    (Eq.mp (show S_errors_is a0 a1 a2 w R = funcVC Tryd.prog Tryd.f72 A_errors_is [a0, a1, a2] w R by kernel_rfl) h)

/-- slices.Index[[]int,int] -/
def A_slices_Index_int : Ann := (.seq .nil (.seq (.seq .nil (.one (.loop [8] .nil))) .nil))
def S_slices_Index_int (a0 : Value) (a1 : Value) (w : World) (R : Ending → World → Prop) : Prop :=
  xP Tryd.prog (sB .len #[58] #[a0]) fun v7_1 =>
  xLoop [(.int .i64 0)] w fun J2 vs3 _ w5 =>
    xP Tryd.prog (sBin .lss 3 (vs3.getD 0 undef) v7_1) fun v9_6 =>
    xIf v9_6 (
      xP Tryd.prog (sIA 58 a0 (vs3.getD 0 undef)) fun v14_7 =>
    xR Tryd.prog (sLoad 3 v14_7) w5 fun v15_8 =>
    xR Tryd.prog (sEq .eql 3 false a1 v15_8) w5 fun v16_9 =>
    xIf v16_9 (
      R (.returned (vs3.getD 0 undef)) w5) (
      xP Tryd.prog (sBin .add 3 (vs3.getD 0 undef) (.int .i64 1)) fun v18_10 =>
    J2 [v18_10] w5)) (
      R (.returned (.int .i64 (-1))) w5)
theorem C_slices_Index_int {a0 : Value} {a1 : Value} {w : World} {R : Ending → World → Prop} (h : S_slices_Index_int a0 a1 w R) : Calls Tryd.prog 73 #[a0, a1] w R :=
  funcVC_sound (an := A_slices_Index_int) (args := [a0, a1]) (k := 2) Tryd.func73 (by kernel_rfl) rfl
    (Eq.mp (show S_slices_Index_int a0 a1 w R = funcVC Tryd.prog Tryd.f73 A_slices_Index_int [a0, a1] w R by kernel_rfl) h)

/-- slices.IndexFunc[[]string,string] -/
def A_slices_IndexFunc_string : Ann := (.seq .nil (.seq (.seq .nil (.one (.loop [8] .nil))) .nil))
def S_slices_IndexFunc_string (a0 : Value) (a1 : Value) (w : World) (R : Ending → World → Prop) : Prop :=
  xP Tryd.prog (sB .len #[30] #[a0]) fun v7_1 =>
  xLoop [(.int .i64 0)] w fun J2 vs3 _ w5 =>
    xP Tryd.prog (sBin .lss 3 (vs3.getD 0 undef) v7_1) fun v9_6 =>
    xIf v9_6 (
      xP Tryd.prog (sIA 30 a0 (vs3.getD 0 undef)) fun v14_7 =>
    xR Tryd.prog (sLoad 9 v14_7) w5 fun v15_8 =>
    xE Tryd.prog (sCallV a1 #[v15_8]) w5 fun v16_9 w10 =>
    xIf v16_9 (
      R (.returned (vs3.getD 0 undef)) w10) (
      xP Tryd.prog (sBin .add 3 (vs3.getD 0 undef) (.int .i64 1)) fun v18_11 =>
    J2 [v18_11] w10)) (
      R (.returned (.int .i64 (-1))) w5)
theorem C_slices_IndexFunc_string {a0 : Value} {a1 : Value} {w : World} {R : Ending → World → Prop} (h : S_slices_IndexFunc_string a0 a1 w R) : Calls Tryd.prog 74 #[a0, a1] w R :=
  funcVC_sound (an := A_slices_IndexFunc_string) (args := [a0, a1]) (k := 2) Tryd.func74 (by kernel_rfl) rfl
    (Eq.mp (show S_slices_IndexFunc_string a0 a1 w R = funcVC Tryd.prog Tryd.f74 A_slices_IndexFunc_string [a0, a1] w R by kernel_rfl) h)

/-- (stave/api.Fault).Unwrap -/
def A_api_Fault_Unwrap : Ann := .nil
def S_api_Fault_Unwrap (a0 : Value) (w : World) (R : Ending → World → Prop) : Prop :=
  xE Tryd.prog (sBox 85 a0) w fun v1_1 w2 =>
  xP Tryd.prog (sFA 85 v1_1 2) fun v3_3 =>
  xR Tryd.prog (sLoad 27 v3_3) w2 fun v4_4 =>
  R (.returned v4_4) w2
theorem C_api_Fault_Unwrap {a0 : Value} {w : World} {R : Ending → World → Prop} (h : S_api_Fault_Unwrap a0 w R) : Calls Tryd.prog 96 #[a0] w R :=
  funcVC_sound (an := A_api_Fault_Unwrap) (args := [a0]) (k := 1) Tryd.func96 (by kernel_rfl) rfl
    (Eq.mp (show S_api_Fault_Unwrap a0 w R = funcVC Tryd.prog Tryd.f96 A_api_Fault_Unwrap [a0] w R by kernel_rfl) h)

/-- gosem.cut.vars -/
def A_gosem_cut_vars : Ann := .nil
def S_gosem_cut_vars (w : World) (R : Ending → World → Prop) : Prop :=
  xP Tryd.prog (sIface 168 (.pointer none)) fun v0_1 =>
  xE Tryd.prog (sCall 71 #[v0_1]) w fun v1_2 w3 =>
  xE Tryd.prog (sInvoke "Elem" #[v1_2]) w3 fun v2_4 w5 =>
  xE Tryd.prog (sStore 113 (.pointer (some ⟨0, 0, none⟩)) v2_4) w5 fun _ w6 =>
  R (.returned (.tuple #[])) w6
theorem C_gosem_cut_vars {w : World} {R : Ending → World → Prop} (h : S_gosem_cut_vars  w R) : Calls Tryd.prog 115 #[] w R :=
  funcVC_sound (an := A_gosem_cut_vars) (args := []) (k := 0) Tryd.func115 (by kernel_rfl) rfl
    (Eq.mp (show S_gosem_cut_vars  w R = funcVC Tryd.prog Tryd.f115 A_gosem_cut_vars [] w R by kernel_rfl) h)

end Go.Proofs.YtclojjiiiejfpaaDoor
