import Derived.Test.YtfjoepdmjopelaaDoorXEnt
import Derived.Test.YtfjoepdmjopelaaDoorRows
namespace Go.Proofs.YtfjoepdmjopelaaDoor
set_option linter.unusedSimpArgs false
set_option linter.unusedVariables false
open Go.X
set_option maxRecDepth 100000

/-- stave/stavelaw6.DiskReads -/
def A_stavelaw6_DiskReads : Ann := (.seq .nil (.seq .nil (.seq (.join [34] .nil .nil) (.seq .nil (.seq .nil (.seq (.seq .nil (.one (.loop [10, 11] (.seq (.join [43] .nil .nil) (.seq (.one (.seq .nil (.join [10] .nil (.seq .nil (.join [105] .nil .nil))))) .nil))))) (.seq .nil (.seq .nil (.seq .nil (.seq .nil (.seq (.join [158] .nil .nil) .nil)))))))))))
def S_stavelaw6_DiskReads (a0 : Value) (a1 : Value) (a2 : Value) (w : World) (R : Ending → World → Prop) : Prop :=
  xE Tryd.prog (sCall 4 #[(.int .i64 5)]) w fun v26_1 w2 =>
  xP Tryd.prog (sExtract v26_1 0) fun v27_3 =>
  xP Tryd.prog (sExtract v26_1 1) fun v28_4 =>
  xJoin (fun J5 =>
    xR Tryd.prog (sEq .eql 23 true v27_3 (.pointer none)) w2 fun v30_6 =>
    xIf v30_6 (
    J5 [(.bool true)] w2) (
    xR Tryd.prog (sEq .neq 25 true v28_4 (.nilIface)) w2 fun v33_7 =>
    J5 [v33_7] w2)) fun vs8 _ w10 =>
  xIf (vs8.getD 0 undef) (
    R (.returned (.bool false)) w10) (
    xE Tryd.prog (sAlloc 28) w10 fun v9_11 w12 =>
  xE Tryd.prog (sMakeMap 29 none) w12 fun v35_13 w14 =>
  xLoop [v35_13, (.int .i64 0)] w14 fun J15 vs16 _ w18 =>
    xJoin (fun J19 =>
      xP Tryd.prog (sB .len #[22] #[a0]) fun v38_20 =>
      xP Tryd.prog (sBin .lss 3 (vs16.getD 1 undef) v38_20) fun v39_21 =>
      xIf v39_21 (
      xP Tryd.prog (sBin .lss 3 (vs16.getD 1 undef) (.int .i64 30)) fun v42_22 =>
      J19 [v42_22] w18) (
      J19 [(.bool false)] w18)) fun vs23 _ w25 =>
    xIf (vs23.getD 0 undef) (
      xP Tryd.prog (sIA 22 a0 (vs16.getD 1 undef)) fun v48_26 =>
    xP Tryd.prog (sFA 33 v48_26 1) fun v49_27 =>
    xR Tryd.prog (sLoad 3 v49_27) w25 fun v50_28 =>
    xE Tryd.prog (sCall 5 #[v50_28, (.int .i64 0), (.int .i64 4)]) w25 fun v51_29 w30 =>
    xJoin (fun J31 =>
      xP Tryd.prog (sIA 22 a0 (vs16.getD 1 undef)) fun v54_32 =>
      xP Tryd.prog (sFA 33 v54_32 0) fun v55_33 =>
      xR Tryd.prog (sLoad 3 v55_33) w30 fun v56_34 =>
      xR Tryd.prog (sEq .eql 3 true v56_34 (.int .i64 2)) w30 fun v57_35 =>
      xIf v57_35 (
        xE Tryd.prog (sCall 6 #[v27_3]) w30 fun v59_36 w37 =>
        xR Tryd.prog (sEq .neq 25 true v59_36 (.nilIface)) w37 fun v60_38 =>
        xIf v60_38 (
          R (.returned (.bool false)) w37) (
          xE Tryd.prog (sMakeMap 29 none) w37 fun v61_39 w40 =>
        J31 [v61_39] w40)) (
        xP Tryd.prog (sIA 22 a0 (vs16.getD 1 undef)) fun v66_41 =>
        xP Tryd.prog (sFA 33 v66_41 3) fun v67_42 =>
        xR Tryd.prog (sLoad 5 v67_42) w30 fun v68_43 =>
        xE Tryd.prog (sCall 8 #[v68_43]) w30 fun v69_44 w45 =>
        xE Tryd.prog (sCall 7 #[v27_3, v51_29, v69_44]) w45 fun v70_46 w47 =>
        xR Tryd.prog (sEq .neq 25 true v70_46 (.nilIface)) w47 fun v71_48 =>
        xIf v71_48 (
          R (.returned (.bool false)) w47) (
          xP Tryd.prog (sIA 22 a0 (vs16.getD 1 undef)) fun v75_49 =>
        xP Tryd.prog (sFA 33 v75_49 3) fun v76_50 =>
        xR Tryd.prog (sLoad 5 v76_50) w47 fun v77_51 =>
        xP Tryd.prog (sIA 28 v9_11 v51_29) fun v78_52 =>
        xE Tryd.prog (sStore 5 v78_52 v77_51) w47 fun _ w53 =>
        xE Tryd.prog (sMapUpdate 29 (vs16.getD 0 undef) v51_29 (.bool true)) w53 fun _ w54 =>
        J31 [(vs16.getD 0 undef)] w54))) fun vs55 _ w57 =>
    xE Tryd.prog (sCall 9 #[v27_3, v51_29]) w57 fun v84_58 w59 =>
    xP Tryd.prog (sExtract v84_58 0) fun v85_60 =>
    xP Tryd.prog (sExtract v84_58 1) fun v86_61 =>
    xJoin (fun J62 =>
      xR Tryd.prog (sEq .neq 25 true v86_61 (.nilIface)) w59 fun v88_63 =>
      xIf v88_63 (
      J62 [(.bool true)] w59) (
      xP Tryd.prog (sIA 28 v9_11 v51_29) fun v92_64 =>
      xR Tryd.prog (sLoad 5 v92_64) w59 fun v93_65 =>
      xE Tryd.prog (sCall 8 #[v93_65]) w59 fun v94_66 w67 =>
      xE Tryd.prog (sCall 10 #[v85_60, v94_66]) w67 fun v95_68 w69 =>
      xP Tryd.prog (sUn .not v95_68) fun v96_70 =>
      xIf v96_70 (
      J62 [(.bool true)] w69) (
      xE Tryd.prog (sCall 11 #[v27_3]) w69 fun v100_71 w72 =>
      xP Tryd.prog (sB .len #[41] #[v100_71]) fun v101_73 =>
      xR Tryd.prog (sB .len #[29] #[(vs55.getD 0 undef)]) w72 fun v103_74 =>
      xR Tryd.prog (sEq .neq 3 false v101_73 v103_74) w72 fun v104_75 =>
      J62 [v104_75] w72))) fun vs76 _ w78 =>
    xIf (vs76.getD 0 undef) (
      R (.returned (.bool false)) w78) (
      xP Tryd.prog (sBin .add 3 (vs16.getD 1 undef) (.int .i64 1)) fun v45_79 =>
    J15 [(vs55.getD 0 undef), v45_79] w78)) (
      xE Tryd.prog (sCall 5 #[a1, (.int .i64 0), (.int .i64 9)]) w25 fun v107_80 w81 =>
  xP Tryd.prog (sBin .add 3 (.int .i64 5) v107_80) fun v108_82 =>
  xE Tryd.prog (sCall 8 #[(.int .u8 1)]) w81 fun v111_83 w84 =>
  xE Tryd.prog (sCall 7 #[v27_3, v108_82, v111_83]) w84 fun v112_85 w86 =>
  xE Tryd.prog (sCall 5 #[a2, (.int .i64 0), (.int .i64 127)]) w86 fun v115_87 w88 =>
  xE Tryd.prog (sMakeSlice 36 v115_87 v115_87) w88 fun v116_89 w90 =>
  xE Tryd.prog (sCall 7 #[v27_3, (.int .i64 1), v116_89]) w90 fun v117_91 w92 =>
  xE Tryd.prog (sCall 9 #[v27_3, (.int .i64 (-1))]) w92 fun v120_93 w94 =>
  xP Tryd.prog (sExtract v120_93 0) fun _ =>
  xP Tryd.prog (sExtract v120_93 1) fun v122_96 =>
  xE Tryd.prog (sCall 12 #[v112_85]) w94 fun v125_97 w98 =>
  xP Tryd.prog (sExtract v125_97 0) fun _ =>
  xP Tryd.prog (sExtract v125_97 1) fun v127_100 =>
  xP Tryd.prog (sExtract v125_97 2) fun v128_101 =>
  xJoin (fun J102 =>
    xE Tryd.prog (sCall 13 #[v112_85]) w98 fun v130_103 w104 =>
    xR Tryd.prog (sEq .neq 45 true v130_103 (.int .i64 1)) w104 fun v131_105 =>
    xIf v131_105 (
    J102 [(.bool true)] w104) (
    xP Tryd.prog (sUn .not v128_101) fun v134_106 =>
    xIf v134_106 (
    J102 [(.bool true)] w104) (
    xR Tryd.prog (sEq .neq 3 false v127_100 v108_82) w104 fun v139_107 =>
    xIf v139_107 (
    J102 [(.bool true)] w104) (
    xE Tryd.prog (sCall 13 #[v117_91]) w104 fun v143_108 w109 =>
    xR Tryd.prog (sEq .neq 45 true v143_108 (.int .i64 1)) w109 fun v144_110 =>
    xIf v144_110 (
    J102 [(.bool true)] w109) (
    xE Tryd.prog (sCall 13 #[v122_96]) w109 fun v148_111 w112 =>
    xR Tryd.prog (sEq .neq 45 true v148_111 (.int .i64 1)) w112 fun v149_113 =>
    xIf v149_113 (
    J102 [(.bool true)] w112) (
    xE Tryd.prog (sCall 11 #[v27_3]) w112 fun v153_114 w115 =>
    xP Tryd.prog (sB .len #[41] #[v153_114]) fun v154_116 =>
    xR Tryd.prog (sB .len #[29] #[(vs16.getD 0 undef)]) w115 fun v156_117 =>
    xR Tryd.prog (sEq .neq 3 false v154_116 v156_117) w115 fun v157_118 =>
    J102 [v157_118] w115)))))) fun vs119 _ w121 =>
  xIf (vs119.getD 0 undef) (
    R (.returned (.bool false)) w121) (
    xE Tryd.prog (sCall 9 #[v27_3, (.int .i64 1)]) w121 fun v161_122 w123 =>
  xP Tryd.prog (sExtract v161_122 0) fun v162_124 =>
  xP Tryd.prog (sExtract v161_122 1) fun v163_125 =>
  xR Tryd.prog (sEq .eql 25 true v163_125 (.nilIface)) w123 fun v165_126 =>
  xIf v165_126 (
  xP Tryd.prog (sIA 28 v9_11 (.int .i64 1)) fun v168_127 =>
  xR Tryd.prog (sLoad 5 v168_127) w123 fun v169_128 =>
  xE Tryd.prog (sCall 8 #[v169_128]) w123 fun v170_129 w130 =>
  xE Tryd.prog (sCall 10 #[v162_124, v170_129]) w130 fun v171_131 w132 =>
  xIf v171_131 (
  xE Tryd.prog (sCall 14 #[]) w132 fun v174_133 w134 =>
  R (.returned v174_133) w134) (
  R (.returned (.bool false)) w132)) (
  R (.returned (.bool false)) w123))))
theorem C_stavelaw6_DiskReads {a0 : Value} {a1 : Value} {a2 : Value} {w : World} {R : Ending → World → Prop} (h : S_stavelaw6_DiskReads a0 a1 a2 w R) : Calls Tryd.prog 3 #[a0, a1, a2] w R :=
  funcVC_sound (an := A_stavelaw6_DiskReads) (args := [a0, a1, a2]) (k := 3) Tryd.func3 (by kernel_rfl) rfl
    (Eq.mp (show S_stavelaw6_DiskReads a0 a1 a2 w R = funcVC Tryd.prog Tryd.f3 A_stavelaw6_DiskReads [a0, a1, a2] w R by kernel_rfl) h)

/-- stave/disk.New -/
def A_disk_New : Ann := (.seq .nil (.seq (.join [10] .nil .nil) .nil))
def S_disk_New (a0 : Value) (w : World) (R : Ending → World → Prop) : Prop :=
  xJoin (fun J1 =>
    xP Tryd.prog (sBin .lss 3 a0 (.int .i64 1)) fun v6_2 =>
    xIf v6_2 (
    J1 [(.bool true)] w) (
    xP Tryd.prog (sBin .gtr 3 a0 (.int .i64 128)) fun v9_3 =>
    J1 [v9_3] w)) fun vs4 _ w6 =>
  xIf (vs4.getD 0 undef) (
    xP Tryd.prog (sIface 45 (.int .i64 1)) fun v12_7 =>
    xE Tryd.prog (sCall 15 #[(.string (ByteArray.mk #[100, 105, 115, 107, 46, 78, 101, 119])), a0, v12_7]) w6 fun v13_8 w9 =>
    R (.returned (.tuple #[(.pointer none), v13_8])) w9) (
    xE Tryd.prog (sMakeSlice 50 a0 a0) w6 fun v15_10 w11 =>
  xP Tryd.prog (sBuild 53 #[(0, v15_10)]) fun v16_12 =>
  xE Tryd.prog (sBox 53 v16_12) w11 fun v17_13 w14 =>
  xE Tryd.prog (sCall 16 #[v17_13]) w14 fun _ w16 =>
  R (.returned (.tuple #[v17_13, (.nilIface)])) w16)
theorem C_disk_New {a0 : Value} {w : World} {R : Ending → World → Prop} (h : S_disk_New a0 w R) : Calls Tryd.prog 4 #[a0] w R :=
  funcVC_sound (an := A_disk_New) (args := [a0]) (k := 1) Tryd.func4 (by kernel_rfl) rfl
    (Eq.mp (show S_disk_New a0 w R = funcVC Tryd.prog Tryd.f4 A_disk_New [a0] w R by kernel_rfl) h)

/-- stave/stavebook.Within -/
def A_stavebook_Within : Ann := (.seq .nil (.seq .nil (.join [0] .nil .nil)))
def S_stavebook_Within (a0 : Value) (a1 : Value) (a2 : Value) (w : World) (R : Ending → World → Prop) : Prop :=
  xP Tryd.prog (sBin .sub 3 a2 a1) fun v10_1 =>
  xP Tryd.prog (sBin .add 3 v10_1 (.int .i64 1)) fun v11_2 =>
  xP Tryd.prog (sBin .rem 3 a0 v11_2) fun v12_3 =>
  xJoin (fun J4 =>
    xP Tryd.prog (sBin .lss 3 v12_3 (.int .i64 0)) fun v14_5 =>
    xIf v14_5 (
      xP Tryd.prog (sBin .add 3 v12_3 a2) fun v17_6 =>
      xP Tryd.prog (sBin .sub 3 v17_6 a1) fun v19_7 =>
      xP Tryd.prog (sBin .add 3 v19_7 (.int .i64 1)) fun v20_8 =>
      J4 [v20_8] w) (
      J4 [v12_3] w)) fun vs9 _ w11 =>
  xP Tryd.prog (sBin .add 3 a1 (vs9.getD 0 undef)) fun v23_12 =>
  R (.returned v23_12) w11
theorem C_stavebook_Within {a0 : Value} {a1 : Value} {a2 : Value} {w : World} {R : Ending → World → Prop} (h : S_stavebook_Within a0 a1 a2 w R) : Calls Tryd.prog 5 #[a0, a1, a2] w R :=
  funcVC_sound (an := A_stavebook_Within) (args := [a0, a1, a2]) (k := 3) Tryd.func5 (by kernel_rfl) rfl
    (Eq.mp (show S_stavebook_Within a0 a1 a2 w R = funcVC Tryd.prog Tryd.f5 A_stavebook_Within [a0, a1, a2] w R by kernel_rfl) h)

/-- (*stave/disk.Disk).Flush -/
def A_disk_Disk_Flush : Ann := (.seq .nil (.seq .nil (.seq (.seq .nil (.one (.loop [] .nil))) .nil)))
def S_disk_Disk_Flush (a0 : Value) (w : World) (R : Ending → World → Prop) : Prop :=
  xE Tryd.prog (sCall 17 #[a0, (.string (ByteArray.mk #[100, 105, 115, 107, 46, 70, 108, 117, 115, 104])), (.int .i64 0), (.bool false)]) w fun v6_1 w2 =>
  xR Tryd.prog (sEq .neq 25 true v6_1 (.nilIface)) w2 fun v8_3 =>
  xIf v8_3 (
    R (.returned v6_1) w2) (
    xP Tryd.prog (sNil a0) fun v11_4 =>
  xP Tryd.prog (sFA 53 v11_4 1) fun v12_5 =>
  xR Tryd.prog (sLoad 51 v12_5) w2 fun v13_6 =>
  xE Tryd.prog (sRange 51 v13_6) w2 fun v14_7 w8 =>
  xLoop [] w8 fun J9 _ _ w12 =>
    xE Tryd.prog (sNext v14_7 false 0) w12 fun v15_13 w14 =>
    xP Tryd.prog (sExtract v15_13 0) fun v16_15 =>
    xIf v16_15 (
      xR Tryd.prog (sEntry v14_7) w14 fun v17_16 =>
    xP Tryd.prog (sExtract v17_16 0) fun v18_17 =>
    xE Tryd.prog (sCall 18 #[a0, v18_17]) w14 fun _ w19 =>
    J9 [] w19) (
      xE Tryd.prog (sMakeMap 51 none) w14 fun v23_20 w21 =>
  xP Tryd.prog (sNil a0) fun v24_22 =>
  xP Tryd.prog (sFA 53 v24_22 1) fun v25_23 =>
  xE Tryd.prog (sStore 51 v25_23 v23_20) w21 fun _ w24 =>
  R (.returned (.nilIface)) w24))
theorem C_disk_Disk_Flush {a0 : Value} {w : World} {R : Ending → World → Prop} (h : S_disk_Disk_Flush a0 w R) : Calls Tryd.prog 6 #[a0] w R :=
  funcVC_sound (an := A_disk_Disk_Flush) (args := [a0]) (k := 1) Tryd.func6 (by kernel_rfl) rfl
    (Eq.mp (show S_disk_Disk_Flush a0 w R = funcVC Tryd.prog Tryd.f6 A_disk_Disk_Flush [a0] w R by kernel_rfl) h)

/-- (*stave/disk.Disk).Write -/
def A_disk_Disk_Write : Ann := (.seq .nil (.seq .nil (.seq (.draw (.pre [0, 1, 2, 3, 4, 5, 6, 7] .nil) [0, 1, 3, 7, 0, 0, 32, 127]) .nil)))
def S_disk_Disk_Write (a0 : Value) (a1 : Value) (a2 : Value) (w : World) (R : Ending → World → Prop) : Prop :=
  xP Tryd.prog (sB .len #[36] #[a2]) fun v11_1 =>
  xR Tryd.prog (sEq .neq 3 true v11_1 (.int .i64 128)) w fun v12_2 =>
  xE Tryd.prog (sCall 17 #[a0, (.string (ByteArray.mk #[100, 105, 115, 107, 46, 87, 114, 105, 116, 101])), a1, v12_2]) w fun v13_3 w4 =>
  xR Tryd.prog (sEq .neq 25 true v13_3 (.nilIface)) w4 fun v15_5 =>
  xIf v15_5 (
    R (.returned v13_3) w4) (
    xP Tryd.prog (sNil a0) fun v18_6 =>
  xP Tryd.prog (sFA 53 v18_6 1) fun v19_7 =>
  xR Tryd.prog (sLoad 51 v19_7) (w4.drew) fun v20_8 =>
  xE Tryd.prog (sCall 19 #[a2]) (w4.drew) fun v23_9 w10 =>
  xStill Tryd.prog (sLoad 51 v19_7) v20_8 w10 <|
  xE Tryd.prog (sMapUpdate 51 v20_8 a1 v23_9) w10 fun _ w11 =>
  R (.returned (.nilIface)) w11)
theorem C_disk_Disk_Write {a0 : Value} {a1 : Value} {a2 : Value} {w : World} {R : Ending → World → Prop} (h : S_disk_Disk_Write a0 a1 a2 w R) : Calls Tryd.prog 7 #[a0, a1, a2] w R :=
  funcVC_sound (an := A_disk_Disk_Write) (args := [a0, a1, a2]) (k := 3) Tryd.func7 (by kernel_rfl) rfl
    (Eq.mp (show S_disk_Disk_Write a0 a1 a2 w R = funcVC Tryd.prog Tryd.f7 A_disk_Disk_Write [a0, a1, a2] w R by kernel_rfl) h)

/-- stave/stavelaw6.sector -/
def A_stavelaw6_sector : Ann := (.seq .nil (.seq .nil (.seq (.seq .nil (.one (.loop [8] .nil))) .nil)))
def S_stavelaw6_sector (a0 : Value) (w : World) (R : Ending → World → Prop) : Prop :=
  xE Tryd.prog (sMakeSlice 36 (.int .i64 128) (.int .i64 128)) w fun v5_1 w2 =>
  xP Tryd.prog (sB .len #[36] #[v5_1]) fun v7_3 =>
  xLoop [(.int .i64 0)] w2 fun J4 vs5 _ w7 =>
    xP Tryd.prog (sBin .lss 3 (vs5.getD 0 undef) v7_3) fun v9_8 =>
    xIf v9_8 (
      xP Tryd.prog (sIA 36 v5_1 (vs5.getD 0 undef)) fun v14_9 =>
    xE Tryd.prog (sStore 5 v14_9 a0) w7 fun _ w10 =>
    xP Tryd.prog (sBin .add 3 (vs5.getD 0 undef) (.int .i64 1)) fun v15_11 =>
    J4 [v15_11] w10) (
      R (.returned v5_1) w7)
theorem C_stavelaw6_sector {a0 : Value} {w : World} {R : Ending → World → Prop} (h : S_stavelaw6_sector a0 w R) : Calls Tryd.prog 8 #[a0] w R :=
  funcVC_sound (an := A_stavelaw6_sector) (args := [a0]) (k := 1) Tryd.func8 (by kernel_rfl) rfl
    (Eq.mp (show S_stavelaw6_sector a0 w R = funcVC Tryd.prog Tryd.f8 A_stavelaw6_sector [a0] w R by kernel_rfl) h)

/-- (*stave/disk.Disk).Read -/
def A_disk_Disk_Read : Ann := .nil
def S_disk_Disk_Read (a0 : Value) (a1 : Value) (w : World) (R : Ending → World → Prop) : Prop :=
  xE Tryd.prog (sCall 17 #[a0, (.string (ByteArray.mk #[100, 105, 115, 107, 46, 82, 101, 97, 100])), a1, (.bool false)]) w fun v11_1 w2 =>
  xR Tryd.prog (sEq .neq 25 true v11_1 (.nilIface)) w2 fun v13_3 =>
  xIf v13_3 (
    R (.returned (.tuple #[(.slice none 0 0), v11_1])) w2) (
    xP Tryd.prog (sNil a0) fun v17_4 =>
  xP Tryd.prog (sFA 53 v17_4 1) fun v18_5 =>
  xR Tryd.prog (sLoad 51 v18_5) w2 fun v19_6 =>
  xR Tryd.prog (sLookup 51 v19_6 a1 true) w2 fun v21_7 =>
  xP Tryd.prog (sExtract v21_7 0) fun v22_8 =>
  xP Tryd.prog (sExtract v21_7 1) fun v23_9 =>
  xIf v23_9 (
    xE Tryd.prog (sCall 19 #[v22_8]) w2 fun v26_10 w11 =>
    R (.returned (.tuple #[v26_10, (.nilIface)])) w11) (
    xP Tryd.prog (sNil a0) fun v28_12 =>
  xP Tryd.prog (sFA 53 v28_12 0) fun v29_13 =>
  xR Tryd.prog (sLoad 50 v29_13) w2 fun v30_14 =>
  xP Tryd.prog (sIA 50 v30_14 a1) fun v32_15 =>
  xR Tryd.prog (sLoad 36 v32_15) w2 fun v33_16 =>
  xE Tryd.prog (sCall 19 #[v33_16]) w2 fun v34_17 w18 =>
  R (.returned (.tuple #[v34_17, (.nilIface)])) w18))
theorem C_disk_Disk_Read {a0 : Value} {a1 : Value} {w : World} {R : Ending → World → Prop} (h : S_disk_Disk_Read a0 a1 w R) : Calls Tryd.prog 9 #[a0, a1] w R :=
  funcVC_sound (an := A_disk_Disk_Read) (args := [a0, a1]) (k := 2) Tryd.func9 (by kernel_rfl) rfl
    (Eq.mp (show S_disk_Disk_Read a0 a1 w R = funcVC Tryd.prog Tryd.f9 A_disk_Disk_Read [a0, a1] w R by kernel_rfl) h)

/-- stave/stavebook.Same[byte] -/
def A_stavebook_Same_byte : Ann := (.seq .nil (.seq .nil (.seq (.seq .nil (.one (.loop [5] (.seq .nil (.seq (.one (.seq (.draw (.pre [0, 1, 2, 3, 4, 5, 6, 7, 8] .nil) [0, 0, 3, 7, 0, 0, 48, 112, 255]) .nil)) .nil))))) .nil)))
def S_stavebook_Same_byte (a0 : Value) (a1 : Value) (w : World) (R : Ending → World → Prop) : Prop :=
  xP Tryd.prog (sB .len #[36] #[a0]) fun v7_1 =>
  xP Tryd.prog (sB .len #[36] #[a1]) fun v9_2 =>
  xR Tryd.prog (sEq .neq 3 false v7_1 v9_2) w fun v10_3 =>
  xIf v10_3 (
    R (.returned (.bool false)) w) (
    xLoop [(.int .i64 0)] w fun J4 vs5 _ w7 =>
    xP Tryd.prog (sB .len #[36] #[a0]) fun v13_8 =>
    xP Tryd.prog (sBin .lss 3 (vs5.getD 0 undef) v13_8) fun v14_9 =>
    xIf v14_9 (
      xP Tryd.prog (sIA 36 a0 (vs5.getD 0 undef)) fun v19_10 =>
    xR Tryd.prog (sLoad 5 v19_10) (w7.drew) fun v20_11 =>
    xP Tryd.prog (sIA 36 a1 (vs5.getD 0 undef)) fun v23_12 =>
    xR Tryd.prog (sLoad 5 v23_12) (w7.drew) fun v24_13 =>
    xR Tryd.prog (sEq .neq 5 false v20_11 v24_13) (w7.drew) fun v25_14 =>
    xIf v25_14 (
      R (.returned (.bool false)) (w7.drew)) (
      xP Tryd.prog (sBin .add 3 (vs5.getD 0 undef) (.int .i64 1)) fun v16_15 =>
    J4 [v16_15] (w7.drew))) (
      R (.returned (.bool true)) w7))
theorem C_stavebook_Same_byte {a0 : Value} {a1 : Value} {w : World} {R : Ending → World → Prop} (h : S_stavebook_Same_byte a0 a1 w R) : Calls Tryd.prog 10 #[a0, a1] w R :=
  funcVC_sound (an := A_stavebook_Same_byte) (args := [a0, a1]) (k := 2) Tryd.func10 (by kernel_rfl) rfl
    (Eq.mp (show S_stavebook_Same_byte a0 a1 w R = funcVC Tryd.prog Tryd.f10 A_stavebook_Same_byte [a0, a1] w R by kernel_rfl) h)

/-- (*stave/disk.Disk).Waits -/
def A_disk_Disk_Waits : Ann := (.seq .nil (.seq .nil (.seq (.seq .nil (.one (.loop [3, 12] (.seq .nil (.seq .nil (.join [3] .nil .nil)))))) .nil)))
def S_disk_Disk_Waits (a0 : Value) (w : World) (R : Ending → World → Prop) : Prop :=
  xP Tryd.prog (sNil a0) fun v8_1 =>
  xP Tryd.prog (sFA 53 v8_1 0) fun v9_2 =>
  xR Tryd.prog (sLoad 50 v9_2) w fun v10_3 =>
  xP Tryd.prog (sB .len #[50] #[v10_3]) fun v11_4 =>
  xLoop [(.slice none 0 0), (.int .i64 0)] w fun J5 vs6 _ w8 =>
    xP Tryd.prog (sBin .lss 3 (vs6.getD 1 undef) v11_4) fun v13_9 =>
    xIf v13_9 (
      xJoin (fun J10 =>
      xP Tryd.prog (sNil a0) fun v17_11 =>
      xP Tryd.prog (sFA 53 v17_11 1) fun v18_12 =>
      xR Tryd.prog (sLoad 51 v18_12) w8 fun v19_13 =>
      xR Tryd.prog (sLookup 51 v19_13 (vs6.getD 1 undef) true) w8 fun v21_14 =>
      xP Tryd.prog (sExtract v21_14 0) fun _ =>
      xP Tryd.prog (sExtract v21_14 1) fun v23_16 =>
      xIf v23_16 (
        xE Tryd.prog (sBuildSlice 41 1 #[(0, (vs6.getD 1 undef))]) w8 fun v27_17 w18 =>
        xE Tryd.prog (sB .append #[41, 41] #[(vs6.getD 0 undef), v27_17]) w18 fun v28_19 w20 =>
        J10 [v28_19] w20) (
        J10 [(vs6.getD 0 undef)] w8)) fun vs21 _ w23 =>
    xP Tryd.prog (sBin .add 3 (vs6.getD 1 undef) (.int .i64 1)) fun v29_24 =>
    J5 [(vs21.getD 0 undef), v29_24] w23) (
      R (.returned (vs6.getD 0 undef)) w8)
theorem C_disk_Disk_Waits {a0 : Value} {w : World} {R : Ending → World → Prop} (h : S_disk_Disk_Waits a0 w R) : Calls Tryd.prog 11 #[a0] w R :=
  funcVC_sound (an := A_disk_Disk_Waits) (args := [a0]) (k := 1) Tryd.func11 (by kernel_rfl) rfl
    (Eq.mp (show S_disk_Disk_Waits a0 w R = funcVC Tryd.prog Tryd.f11 A_disk_Disk_Waits [a0] w R by kernel_rfl) h)

/-- stave/fault.Where -/
def A_fault_Where : Ann := (.seq .nil (.seq .nil (.seq .nil (.seq .nil (.seq (.draw (.pre [0, 1, 2, 3, 4, 5, 6] .nil) [0, 1, 0, 4, 3, 31, 63]) .nil)))))
def S_fault_Where (a0 : Value) (w : World) (R : Ending → World → Prop) : Prop :=
  xE Tryd.prog (sCall 20 #[a0]) w fun v8_1 w2 =>
  xP Tryd.prog (sB .len #[58] #[v8_1]) fun v10_3 =>
  xR Tryd.prog (sEq .eql 3 true v10_3 (.int .i64 0)) w2 fun v11_4 =>
  xIf v11_4 (
    R (.returned (.tuple #[(.string (ByteArray.mk #[])), (.int .i64 0), (.bool false)])) w2) (
    xP Tryd.prog (sB .len #[58] #[v8_1]) fun v14_5 =>
  xP Tryd.prog (sBin .sub 3 v14_5 (.int .i64 1)) fun v15_6 =>
  xP Tryd.prog (sIA 58 v8_1 v15_6) fun v16_7 =>
  xR Tryd.prog (sLoad 61 v16_7) w2 fun v17_8 =>
  xE Tryd.prog (sAlloc 61) w2 fun v6_9 w10 =>
  xE Tryd.prog (sStore 61 v6_9 v17_8) w10 fun _ w11 =>
  xP Tryd.prog (sFA 61 v6_9 0) fun v18_12 =>
  xR Tryd.prog (sLoad 9 v18_12) (w11.drew) fun v19_13 =>
  xP Tryd.prog (sFA 61 v6_9 1) fun v20_14 =>
  xR Tryd.prog (sLoad 3 v20_14) (w11.drew) fun v21_15 =>
  R (.returned (.tuple #[v19_13, v21_15, (.bool true)])) (w11.drew))
theorem C_fault_Where {a0 : Value} {w : World} {R : Ending → World → Prop} (h : S_fault_Where a0 w R) : Calls Tryd.prog 12 #[a0] w R :=
  funcVC_sound (an := A_fault_Where) (args := [a0]) (k := 1) Tryd.func12 (by kernel_rfl) rfl
    (Eq.mp (show S_fault_Where a0 w R = funcVC Tryd.prog Tryd.f12 A_fault_Where [a0] w R by kernel_rfl) h)

/-- stave/fault.Kind -/
def A_fault_Kind : Ann := .nil
def S_fault_Kind (a0 : Value) (w : World) (R : Ending → World → Prop) : Prop :=
  xE Tryd.prog (sAlloc 45) w fun v3_1 w2 =>
  xP Tryd.prog (sIface 63 v3_1) fun v6_3 =>
  xE Tryd.prog (sCall 21 #[a0, v6_3]) w2 fun v7_4 w5 =>
  xIf v7_4 (
    xR Tryd.prog (sLoad 45 v3_1) w5 fun v8_6 =>
    R (.returned v8_6) w5) (
    xP Tryd.prog (sIface 45 (.int .i64 6)) fun v11_7 =>
    xE Tryd.prog (sCall 22 #[a0, v11_7]) w5 fun v12_8 w9 =>
    xIf v12_8 (
      R (.returned (.int .i64 6)) w9) (
      R (.returned (.int .i64 0)) w9))
theorem C_fault_Kind {a0 : Value} {w : World} {R : Ending → World → Prop} (h : S_fault_Kind a0 w R) : Calls Tryd.prog 13 #[a0] w R :=
  funcVC_sound (an := A_fault_Kind) (args := [a0]) (k := 1) Tryd.func13 (by kernel_rfl) rfl
    (Eq.mp (show S_fault_Kind a0 w R = funcVC Tryd.prog Tryd.f13 A_fault_Kind [a0] w R by kernel_rfl) h)

/-- stave/stavelaw6.DiskRuns -/
def A_stavelaw6_DiskRuns : Ann := (.seq .nil (.seq .nil (.seq (.join [21] .nil .nil) (.seq (.seq .nil (.one (.loop [3] .nil))) .nil))))
def S_stavelaw6_DiskRuns (w : World) (R : Ending → World → Prop) : Prop :=
  xE Tryd.prog (sCall 4 #[(.int .i64 3)]) w fun v13_1 w2 =>
  xP Tryd.prog (sExtract v13_1 0) fun v14_3 =>
  xP Tryd.prog (sExtract v13_1 1) fun v15_4 =>
  xJoin (fun J5 =>
    xR Tryd.prog (sEq .eql 23 true v14_3 (.pointer none)) w2 fun v17_6 =>
    xIf v17_6 (
    J5 [(.bool true)] w2) (
    xR Tryd.prog (sEq .neq 25 true v15_4 (.nilIface)) w2 fun v20_7 =>
    J5 [v20_7] w2)) fun vs8 _ w10 =>
  xIf (vs8.getD 0 undef) (
    R (.returned (.bool false)) w10) (
    xLoop [(.int .i64 0)] w10 fun J11 vs12 _ w14 =>
    xP Tryd.prog (sBin .lss 3 (vs12.getD 0 undef) (.int .i64 3)) fun v23_15 =>
    xIf v23_15 (
      xE Tryd.prog (sCall 8 #[(.int .u8 7)]) w14 fun v28_16 w17 =>
    xE Tryd.prog (sCall 7 #[v14_3, (vs12.getD 0 undef), v28_16]) w17 fun v29_18 w19 =>
    xR Tryd.prog (sEq .neq 25 true v29_18 (.nilIface)) w19 fun v30_20 =>
    xIf v30_20 (
      R (.returned (.bool false)) w19) (
      xP Tryd.prog (sBin .add 3 (vs12.getD 0 undef) (.int .i64 1)) fun v25_21 =>
    J11 [v25_21] w19)) (
      xE Tryd.prog (sCall 23 #[v14_3, (.int .u64 2)]) w14 fun _ w23 =>
  xE Tryd.prog (sCall 9 #[v14_3, (.int .i64 0)]) w23 fun v35_24 w25 =>
  xP Tryd.prog (sExtract v35_24 0) fun v36_26 =>
  xP Tryd.prog (sExtract v35_24 1) fun _ =>
  xE Tryd.prog (sCall 9 #[v14_3, (.int .i64 1)]) w25 fun v40_28 w29 =>
  xP Tryd.prog (sExtract v40_28 0) fun v41_30 =>
  xP Tryd.prog (sExtract v40_28 1) fun _ =>
  xE Tryd.prog (sCall 24 #[v14_3, (.int .i64 1), (.int .i64 0), (.int .u32 5)]) w29 fun v44_32 w33 =>
  xE Tryd.prog (sCall 24 #[v14_3, (.int .i64 1), (.int .i64 0), (.int .u32 5)]) w33 fun v46_34 w35 =>
  xE Tryd.prog (sCall 25 #[v14_3]) w35 fun _ w37 =>
  xE Tryd.prog (sCall 9 #[v14_3, (.int .i64 1)]) w37 fun v51_38 w39 =>
  xP Tryd.prog (sExtract v51_38 0) fun _ =>
  xP Tryd.prog (sExtract v51_38 1) fun v53_41 =>
  xE Tryd.prog (sCall 8 #[(.int .u8 0)]) w39 fun v55_42 w43 =>
  xE Tryd.prog (sCall 10 #[v36_26, v55_42]) w43 fun v56_44 w45 =>
  xIf v56_44 (
  xE Tryd.prog (sCall 8 #[(.int .u8 7)]) w45 fun v59_46 w47 =>
  xE Tryd.prog (sCall 10 #[v41_30, v59_46]) w47 fun v60_48 w49 =>
  xIf v60_48 (
  xIf v44_32 (
  xP Tryd.prog (sUn .not v46_34) fun v67_50 =>
  xIf v67_50 (
  xE Tryd.prog (sCall 13 #[v53_41]) w49 fun v71_51 w52 =>
  xR Tryd.prog (sEq .eql 45 true v71_51 (.int .i64 5)) w52 fun v72_53 =>
  R (.returned v72_53) w52) (
  R (.returned (.bool false)) w49)) (
  R (.returned (.bool false)) w49)) (
  R (.returned (.bool false)) w49)) (
  R (.returned (.bool false)) w45)))
theorem C_stavelaw6_DiskRuns {w : World} {R : Ending → World → Prop} (h : S_stavelaw6_DiskRuns  w R) : Calls Tryd.prog 14 #[] w R :=
  funcVC_sound (an := A_stavelaw6_DiskRuns) (args := []) (k := 0) Tryd.func14 (by kernel_rfl) rfl
    (Eq.mp (show S_stavelaw6_DiskRuns  w R = funcVC Tryd.prog Tryd.f14 A_stavelaw6_DiskRuns [] w R by kernel_rfl) h)

/-- stave/fault.Wrap -/
def A_fault_Wrap : Ann := .nil
def S_fault_Wrap (a0 : Value) (a1 : Value) (a2 : Value) (w : World) (R : Ending → World → Prop) : Prop :=
  xR Tryd.prog (sEq .eql 25 true a2 (.nilIface)) w fun v8_1 =>
  xIf v8_1 (
    R (.returned (.nilIface)) w) (
    xP Tryd.prog (sBuild 61 #[(0, a0), (1, a1), (2, a2)]) fun v12_2 =>
  xP Tryd.prog (sIface 61 v12_2) fun v13_3 =>
  R (.returned v13_3) w)
theorem C_fault_Wrap {a0 : Value} {a1 : Value} {a2 : Value} {w : World} {R : Ending → World → Prop} (h : S_fault_Wrap a0 a1 a2 w R) : Calls Tryd.prog 15 #[a0, a1, a2] w R :=
  funcVC_sound (an := A_fault_Wrap) (args := [a0, a1, a2]) (k := 3) Tryd.func15 (by kernel_rfl) rfl
    (Eq.mp (show S_fault_Wrap a0 a1 a2 w R = funcVC Tryd.prog Tryd.f15 A_fault_Wrap [a0, a1, a2] w R by kernel_rfl) h)

/-- (*stave/disk.Disk).blank -/
def A_disk_Disk_blank : Ann := (.seq (.seq .nil (.one (.loop [8] (.seq .nil (.seq .nil (.seq (.one (.seq .nil (.draw (.pre [0, 1, 2, 3, 4, 5, 6, 7] .nil) [0, 1, 3, 7, 0, 0, 63, 127]))) .nil)))))) .nil)
def S_disk_Disk_blank (a0 : Value) (w : World) (R : Ending → World → Prop) : Prop :=
  xP Tryd.prog (sNil a0) fun v4_1 =>
  xP Tryd.prog (sFA 53 v4_1 0) fun v5_2 =>
  xR Tryd.prog (sLoad 50 v5_2) w fun v6_3 =>
  xP Tryd.prog (sB .len #[50] #[v6_3]) fun v7_4 =>
  xLoop [(.int .i64 0)] w fun J5 vs6 _ w8 =>
    xP Tryd.prog (sBin .lss 3 (vs6.getD 0 undef) v7_4) fun v9_9 =>
    xIf v9_9 (
      xP Tryd.prog (sNil a0) fun v12_10 =>
    xP Tryd.prog (sFA 53 v12_10 0) fun v13_11 =>
    xR Tryd.prog (sLoad 50 v13_11) (w8.drew) fun v14_12 =>
    xE Tryd.prog (sMakeSlice 36 (.int .i64 128) (.int .i64 128)) (w8.drew) fun v16_13 w14 =>
    xStill Tryd.prog (sLoad 50 v13_11) v14_12 w14 <|
    xP Tryd.prog (sIA 50 v14_12 (vs6.getD 0 undef)) fun v17_15 =>
    xE Tryd.prog (sStore 36 v17_15 v16_13) w14 fun _ w16 =>
    xP Tryd.prog (sBin .add 3 (vs6.getD 0 undef) (.int .i64 1)) fun v18_17 =>
    J5 [v18_17] w16) (
      xE Tryd.prog (sMakeMap 51 none) w8 fun v21_18 w19 =>
  xE Tryd.prog (sMakeMap 29 none) w19 fun v22_20 w21 =>
  xP Tryd.prog (sNil a0) fun v23_22 =>
  xP Tryd.prog (sFA 53 v23_22 1) fun v24_23 =>
  xE Tryd.prog (sStore 51 v24_23 v21_18) w21 fun _ w24 =>
  xP Tryd.prog (sNil a0) fun v25_25 =>
  xP Tryd.prog (sFA 53 v25_25 2) fun v26_26 =>
  xE Tryd.prog (sStore 29 v26_26 v22_20) w24 fun _ w27 =>
  R (.returned (.tuple #[])) w27)
theorem C_disk_Disk_blank {a0 : Value} {w : World} {R : Ending → World → Prop} (h : S_disk_Disk_blank a0 w R) : Calls Tryd.prog 16 #[a0] w R :=
  funcVC_sound (an := A_disk_Disk_blank) (args := [a0]) (k := 1) Tryd.func16 (by kernel_rfl) rfl
    (Eq.mp (show S_disk_Disk_blank a0 w R = funcVC Tryd.prog Tryd.f16 A_disk_Disk_blank [a0] w R by kernel_rfl) h)

/-- (*stave/disk.Disk).refused -/
def A_disk_Disk_refused : Ann := (.seq .nil (.seq (.one (.seq .nil (.seq .nil (.join [18] .nil .nil)))) .nil))
def S_disk_Disk_refused (a0 : Value) (a1 : Value) (a2 : Value) (a3 : Value) (w : World) (R : Ending → World → Prop) : Prop :=
  xP Tryd.prog (sNil a0) fun v11_1 =>
  xP Tryd.prog (sFA 53 v11_1 3) fun v12_2 =>
  xR Tryd.prog (sLoad 4 v12_2) w fun v13_3 =>
  xIf v13_3 (
    xP Tryd.prog (sIface 45 (.int .i64 5)) fun v16_4 =>
    xE Tryd.prog (sCall 15 #[a1, a2, v16_4]) w fun v17_5 w6 =>
    R (.returned v17_5) w6) (
    xJoin (fun J7 =>
      xIf a3 (
      J7 [(.bool true)] w) (
      xP Tryd.prog (sBin .lss 3 a2 (.int .i64 0)) fun v22_8 =>
      xIf v22_8 (
      J7 [(.bool true)] w) (
      xP Tryd.prog (sNil a0) fun v27_9 =>
      xP Tryd.prog (sFA 53 v27_9 0) fun v28_10 =>
      xR Tryd.prog (sLoad 50 v28_10) w fun v29_11 =>
      xP Tryd.prog (sB .len #[50] #[v29_11]) fun v30_12 =>
      xP Tryd.prog (sBin .geq 3 a2 v30_12) fun v31_13 =>
      J7 [v31_13] w))) fun vs14 _ w16 =>
    xIf (vs14.getD 0 undef) (
      xP Tryd.prog (sIface 45 (.int .i64 1)) fun v35_17 =>
      xE Tryd.prog (sCall 15 #[a1, a2, v35_17]) w16 fun v36_18 w19 =>
      R (.returned v36_18) w19) (
      R (.returned (.nilIface)) w16))
theorem C_disk_Disk_refused {a0 : Value} {a1 : Value} {a2 : Value} {a3 : Value} {w : World} {R : Ending → World → Prop} (h : S_disk_Disk_refused a0 a1 a2 a3 w R) : Calls Tryd.prog 17 #[a0, a1, a2, a3] w R :=
  funcVC_sound (an := A_disk_Disk_refused) (args := [a0, a1, a2, a3]) (k := 4) Tryd.func17 (by kernel_rfl) rfl
    (Eq.mp (show S_disk_Disk_refused a0 a1 a2 a3 w R = funcVC Tryd.prog Tryd.f17 A_disk_Disk_refused [a0, a1, a2, a3] w R by kernel_rfl) h)

/-- (*stave/disk.Disk).put -/
def A_disk_Disk_put : Ann := (.seq (.draw (.pre [0, 1, 2, 3, 4, 5, 6, 7, 8, 9, 10, 11, 12] .nil) [0, 1, 3, 7, 0, 0, 32, 96, 224, 0, 992, 2047, 4095]) .nil)
def S_disk_Disk_put (a0 : Value) (a1 : Value) (w : World) (R : Ending → World → Prop) : Prop :=
  xP Tryd.prog (sNil a0) fun v5_1 =>
  xP Tryd.prog (sFA 53 v5_1 0) fun v6_2 =>
  xR Tryd.prog (sLoad 50 v6_2) (w.drew) fun v7_3 =>
  xP Tryd.prog (sNil a0) fun v10_4 =>
  xP Tryd.prog (sFA 53 v10_4 1) fun v11_5 =>
  xR Tryd.prog (sLoad 51 v11_5) (w.drew) fun v12_6 =>
  xR Tryd.prog (sLookup 51 v12_6 a1 false) (w.drew) fun v14_7 =>
  xP Tryd.prog (sIA 50 v7_3 a1) fun v15_8 =>
  xE Tryd.prog (sStore 36 v15_8 v14_7) (w.drew) fun _ w9 =>
  xP Tryd.prog (sNil a0) fun v17_10 =>
  xP Tryd.prog (sFA 53 v17_10 2) fun v18_11 =>
  xR Tryd.prog (sLoad 29 v18_11) w9 fun v19_12 =>
  xE Tryd.prog (sMapUpdate 29 v19_12 a1 (.bool false)) w9 fun _ w13 =>
  R (.returned (.tuple #[])) w13
theorem C_disk_Disk_put {a0 : Value} {a1 : Value} {w : World} {R : Ending → World → Prop} (h : S_disk_Disk_put a0 a1 w R) : Calls Tryd.prog 18 #[a0, a1] w R :=
  funcVC_sound (an := A_disk_Disk_put) (args := [a0, a1]) (k := 2) Tryd.func18 (by kernel_rfl) rfl
    (Eq.mp (show S_disk_Disk_put a0 a1 w R = funcVC Tryd.prog Tryd.f18 A_disk_Disk_put [a0, a1] w R by kernel_rfl) h)

/-- slices.Clone[[]byte,byte] -/
def A_slices_Clone_byte : Ann := .nil
def S_slices_Clone_byte (a0 : Value) (w : World) (R : Ending → World → Prop) : Prop :=
  xR Tryd.prog (sEq .eql 36 true a0 (.slice none 0 0)) w fun v4_1 =>
  xIf v4_1 (
    R (.returned (.slice none 0 0)) w) (
    xE Tryd.prog (sBuildSlice 36 0 #[]) w fun v5_2 w3 =>
  xE Tryd.prog (sB .append #[36, 36] #[v5_2, a0]) w3 fun v7_4 w5 =>
  R (.returned v7_4) w5)
theorem C_slices_Clone_byte {a0 : Value} {w : World} {R : Ending → World → Prop} (h : S_slices_Clone_byte a0 w R) : Calls Tryd.prog 19 #[a0] w R :=
  funcVC_sound (an := A_slices_Clone_byte) (args := [a0]) (k := 1) Tryd.func19 (by kernel_rfl) rfl
    (Eq.mp (show S_slices_Clone_byte a0 w R = funcVC Tryd.prog Tryd.f19 A_slices_Clone_byte [a0] w R by kernel_rfl) h)

/-- stave/fault.faults -/
def A_fault_faults : Ann := (.seq .nil (.seq .nil (.seq .nil (.seq (.one (.loop [0, 3] .nil)) .nil))))
def S_fault_faults (a0 : Value) (w : World) (R : Ending → World → Prop) : Prop :=
  xE Tryd.prog (sAlloc 61) w fun v4_1 w2 =>
  xLoop [a0, (.slice none 0 0)] w2 fun J3 vs4 _ w6 =>
    xP Tryd.prog (sIface 68 v4_1) fun v6_7 =>
    xE Tryd.prog (sCall 21 #[(vs4.getD 0 undef), v6_7]) w6 fun v7_8 w9 =>
    xIf v7_8 (
      xR Tryd.prog (sLoad 61 v4_1) w9 fun v9_10 =>
    xE Tryd.prog (sBuildSlice 58 1 #[(0, v9_10)]) w9 fun v10_11 w12 =>
    xE Tryd.prog (sB .append #[58, 58] #[(vs4.getD 1 undef), v10_11]) w12 fun v11_13 w14 =>
    xP Tryd.prog (sFA 61 v4_1 2) fun v12_15 =>
    xR Tryd.prog (sLoad 25 v12_15) w14 fun v13_16 =>
    J3 [v13_16, v11_13] w14) (
      R (.returned (vs4.getD 1 undef)) w9)
theorem C_fault_faults {a0 : Value} {w : World} {R : Ending → World → Prop} (h : S_fault_faults a0 w R) : Calls Tryd.prog 20 #[a0] w R :=
  funcVC_sound (an := A_fault_faults) (args := [a0]) (k := 1) Tryd.func20 (by kernel_rfl) rfl
    (Eq.mp (show S_fault_faults a0 w R = funcVC Tryd.prog Tryd.f20 A_fault_faults [a0] w R by kernel_rfl) h)

/-- errors.As -/
def A_errors_As : Ann := (.seq .nil (.seq .nil (.join [] .nil (.seq .nil (.seq .nil (.join [] (.join [23] .nil .nil) (.seq .nil (.join [] (.join [35] .nil .nil) .nil))))))))
def S_errors_As (a0 : Value) (a1 : Value) (w : World) (R : Ending → World → Prop) : Prop :=
  xR Tryd.prog (sEq .eql 25 true a0 (.nilIface)) w fun v9_1 =>
  xIf v9_1 (
    R (.returned (.bool false)) w) (
    xJoin (fun J2 =>
    xR Tryd.prog (sEq .eql 20 true a1 (.nilIface)) w fun v11_3 =>
    xIf v11_3 (
      xP Tryd.prog (sIface 9 (.string (ByteArray.mk #[101, 114, 114, 111, 114, 115, 58, 32, 116, 97, 114, 103, 101, 116, 32, 99, 97, 110, 110, 111, 116, 32, 98, 101, 32, 110, 105, 108]))) fun v12_4 =>
      xE Tryd.prog (sPanic v12_4) w fun _ w5 =>
      J2 [] w5) (
      J2 [] w)) fun _ _ w8 =>
  xE Tryd.prog (sCall 26 #[a1]) w8 fun v14_9 w10 =>
  xE Tryd.prog (sAlloc 72) w10 fun v5_11 w12 =>
  xE Tryd.prog (sStore 72 v5_11 v14_9) w12 fun _ w13 =>
  xR Tryd.prog (sLoad 72 v5_11) w13 fun v15_14 =>
  xE Tryd.prog (sCall 27 #[v15_14]) w13 fun v16_15 w16 =>
  xJoin (fun J17 =>
    xJoin (fun J18 =>
      xE Tryd.prog (sInvoke "Kind" #[v16_15]) w16 fun v18_19 w20 =>
      xR Tryd.prog (sEq .neq 77 true v18_19 (.int .u8 22)) w20 fun v19_21 =>
      xIf v19_21 (
      J18 [(.bool true)] w20) (
      xR Tryd.prog (sLoad 72 v5_11) w20 fun v21_22 =>
      xE Tryd.prog (sCall 28 #[v21_22]) w20 fun v22_23 w24 =>
      J18 [v22_23] w24)) fun vs25 _ w27 =>
    xIf (vs25.getD 0 undef) (
      xP Tryd.prog (sIface 9 (.string (ByteArray.mk #[101, 114, 114, 111, 114, 115, 58, 32, 116, 97, 114, 103, 101, 116, 32, 109, 117, 115, 116, 32, 98, 101, 32, 97, 32, 110, 111, 110, 45, 110, 105, 108, 32, 112, 111, 105, 110, 116, 101, 114]))) fun v24_28 =>
      xE Tryd.prog (sPanic v24_28) w27 fun _ w29 =>
      J17 [] w29) (
      J17 [] w27)) fun _ _ w32 =>
  xE Tryd.prog (sInvoke "Elem" #[v16_15]) w32 fun v26_33 w34 =>
  xJoin (fun J35 =>
    xJoin (fun J36 =>
      xE Tryd.prog (sInvoke "Kind" #[v26_33]) w34 fun v28_37 w38 =>
      xR Tryd.prog (sEq .neq 77 true v28_37 (.int .u8 20)) w38 fun v29_39 =>
      xIf v29_39 (
      xR Tryd.prog (sLoad 75 (.pointer (some ⟨0, 0, none⟩))) w38 fun v32_40 =>
      xE Tryd.prog (sInvoke "Implements" #[v26_33, v32_40]) w38 fun v33_41 w42 =>
      xP Tryd.prog (sUn .not v33_41) fun v34_43 =>
      J36 [v34_43] w42) (
      J36 [(.bool false)] w38)) fun vs44 _ w46 =>
    xIf (vs44.getD 0 undef) (
      xP Tryd.prog (sIface 9 (.string (ByteArray.mk #[101, 114, 114, 111, 114, 115, 58, 32, 42, 116, 97, 114, 103, 101, 116, 32, 109, 117, 115, 116, 32, 98, 101, 32, 105, 110, 116, 101, 114, 102, 97, 99, 101, 32, 111, 114, 32, 105, 109, 112, 108, 101, 109, 101, 110, 116, 32, 101, 114, 114, 111, 114]))) fun v36_47 =>
      xE Tryd.prog (sPanic v36_47) w46 fun _ w48 =>
      J35 [] w48) (
      J35 [] w46)) fun _ _ w51 =>
  xR Tryd.prog (sLoad 72 v5_11) w51 fun v39_52 =>
  xE Tryd.prog (sCall 29 #[a0, a1, v39_52, v26_33]) w51 fun v41_53 w54 =>
  R (.returned v41_53) w54)
theorem C_errors_As {a0 : Value} {a1 : Value} {w : World} {R : Ending → World → Prop} (h : S_errors_As a0 a1 w R) : Calls Tryd.prog 21 #[a0, a1] w R :=
  funcVC_sound (an := A_errors_As) (args := [a0, a1]) (k := 2) Tryd.func21 (by kernel_rfl) rfl
    (Eq.mp (show S_errors_As a0 a1 w R = funcVC Tryd.prog Tryd.f21 A_errors_As [a0, a1] w R by kernel_rfl) h)

/-- errors.Is -/
def A_errors_Is : Ann := (.seq .nil (.seq (.join [11] .nil .nil) .nil))
def S_errors_Is (a0 : Value) (a1 : Value) (w : World) (R : Ending → World → Prop) : Prop :=
  xJoin (fun J1 =>
    xR Tryd.prog (sEq .eql 25 true a0 (.nilIface)) w fun v7_2 =>
    xIf v7_2 (
    J1 [(.bool true)] w) (
    xR Tryd.prog (sEq .eql 25 true a1 (.nilIface)) w fun v10_3 =>
    J1 [v10_3] w)) fun vs4 _ w6 =>
  xIf (vs4.getD 0 undef) (
    xR Tryd.prog (sEq .eql 25 false a0 a1) w6 fun v14_7 =>
    R (.returned v14_7) w6) (
    xE Tryd.prog (sCall 30 #[a1]) w6 fun v16_8 w9 =>
  xE Tryd.prog (sInvoke "Comparable" #[v16_8]) w9 fun v17_10 w11 =>
  xE Tryd.prog (sCall 31 #[a0, a1, v17_10]) w11 fun v21_12 w13 =>
  R (.returned v21_12) w13)
theorem C_errors_Is {a0 : Value} {a1 : Value} {w : World} {R : Ending → World → Prop} (h : S_errors_Is a0 a1 w R) : Calls Tryd.prog 22 #[a0, a1] w R :=
  funcVC_sound (an := A_errors_Is) (args := [a0, a1]) (k := 2) Tryd.func22 (by kernel_rfl) rfl
    (Eq.mp (show S_errors_Is a0 a1 w R = funcVC Tryd.prog Tryd.f22 A_errors_Is [a0, a1] w R by kernel_rfl) h)

/-- (*stave/disk.Disk).Crash -/
def A_disk_Disk_Crash : Ann := (.seq (.seq .nil (.one (.loop [9] (.seq .nil (.seq .nil (.join [] .nil .nil)))))) .nil)
def S_disk_Disk_Crash (a0 : Value) (a1 : Value) (w : World) (R : Ending → World → Prop) : Prop :=
  xE Tryd.prog (sCall 11 #[a0]) w fun v7_1 w2 =>
  xP Tryd.prog (sB .len #[41] #[v7_1]) fun v8_3 =>
  xLoop [(.int .i64 0)] w2 fun J4 vs5 _ w7 =>
    xP Tryd.prog (sBin .lss 3 (vs5.getD 0 undef) v8_3) fun v10_8 =>
    xIf v10_8 (
      xJoin (fun J9 =>
      xP Tryd.prog (sIA 41 v7_1 (vs5.getD 0 undef)) fun v12_10 =>
      xR Tryd.prog (sLoad 3 v12_10) w7 fun v13_11 =>
      xP Tryd.prog (sBin .rem 3 (vs5.getD 0 undef) (.int .i64 64)) fun v16_12 =>
      xP Tryd.prog (sConv 3 83 v16_12) fun v17_13 =>
      xP Tryd.prog (sBin .shr 31 a1 v17_13) fun v18_14 =>
      xP Tryd.prog (sBin .and 31 v18_14 (.int .u64 1)) fun v19_15 =>
      xR Tryd.prog (sEq .eql 31 true v19_15 (.int .u64 1)) w7 fun v20_16 =>
      xIf v20_16 (
        xE Tryd.prog (sCall 18 #[a0, v13_11]) w7 fun _ w18 =>
        J9 [] w18) (
        J9 [] w7)) fun _ _ w21 =>
    xP Tryd.prog (sBin .add 3 (vs5.getD 0 undef) (.int .i64 1)) fun v24_22 =>
    J4 [v24_22] w21) (
      xE Tryd.prog (sMakeMap 51 none) w7 fun v26_23 w24 =>
  xP Tryd.prog (sNil a0) fun v27_25 =>
  xP Tryd.prog (sFA 53 v27_25 1) fun v28_26 =>
  xE Tryd.prog (sStore 51 v28_26 v26_23) w24 fun _ w27 =>
  R (.returned (.tuple #[])) w27)
theorem C_disk_Disk_Crash {a0 : Value} {a1 : Value} {w : World} {R : Ending → World → Prop} (h : S_disk_Disk_Crash a0 a1 w R) : Calls Tryd.prog 23 #[a0, a1] w R :=
  funcVC_sound (an := A_disk_Disk_Crash) (args := [a0, a1]) (k := 2) Tryd.func23 (by kernel_rfl) rfl
    (Eq.mp (show S_disk_Disk_Crash a0 a1 w R = funcVC Tryd.prog Tryd.f23 A_disk_Disk_Crash [a0, a1] w R by kernel_rfl) h)

/-- (*stave/disk.Disk).Rot -/
def A_disk_Disk_Rot : Ann := (.seq .nil (.seq (.join [31] .nil .nil) (.seq (.seq .nil (.one (.loop [32] .nil))) .nil)))
def S_disk_Disk_Rot (a0 : Value) (a1 : Value) (a2 : Value) (a3 : Value) (w : World) (R : Ending → World → Prop) : Prop :=
  xJoin (fun J1 =>
    xP Tryd.prog (sBin .lss 3 a2 (.int .i64 0)) fun v13_2 =>
    xIf v13_2 (
    xE Tryd.prog (sCall 17 #[a0, (.string (ByteArray.mk #[100, 105, 115, 107, 46, 82, 111, 116])), a1, (.bool true)]) w fun v22_3 w4 =>
    xR Tryd.prog (sEq .neq 25 true v22_3 (.nilIface)) w4 fun v23_5 =>
    xIf v23_5 (
    J1 [(.bool true)] w4) (
    xP Tryd.prog (sNil a0) fun v26_6 =>
    xP Tryd.prog (sFA 53 v26_6 2) fun v27_7 =>
    xR Tryd.prog (sLoad 29 v27_7) w4 fun v28_8 =>
    xR Tryd.prog (sLookup 29 v28_8 a1 false) w4 fun v30_9 =>
    J1 [v30_9] w4)) (
    xP Tryd.prog (sBin .gtr 3 a2 (.int .i64 124)) fun v16_10 =>
    xIf v16_10 (
    xE Tryd.prog (sCall 17 #[a0, (.string (ByteArray.mk #[100, 105, 115, 107, 46, 82, 111, 116])), a1, (.bool true)]) w fun v22_11 w12 =>
    xR Tryd.prog (sEq .neq 25 true v22_11 (.nilIface)) w12 fun v23_13 =>
    xIf v23_13 (
    J1 [(.bool true)] w12) (
    xP Tryd.prog (sNil a0) fun v26_14 =>
    xP Tryd.prog (sFA 53 v26_14 2) fun v27_15 =>
    xR Tryd.prog (sLoad 29 v27_15) w12 fun v28_16 =>
    xR Tryd.prog (sLookup 29 v28_16 a1 false) w12 fun v30_17 =>
    J1 [v30_17] w12)) (
    xR Tryd.prog (sEq .eql 67 true a3 (.int .u32 0)) w fun v20_18 =>
    xE Tryd.prog (sCall 17 #[a0, (.string (ByteArray.mk #[100, 105, 115, 107, 46, 82, 111, 116])), a1, v20_18]) w fun v22_19 w20 =>
    xR Tryd.prog (sEq .neq 25 true v22_19 (.nilIface)) w20 fun v23_21 =>
    xIf v23_21 (
    J1 [(.bool true)] w20) (
    xP Tryd.prog (sNil a0) fun v26_22 =>
    xP Tryd.prog (sFA 53 v26_22 2) fun v27_23 =>
    xR Tryd.prog (sLoad 29 v27_23) w20 fun v28_24 =>
    xR Tryd.prog (sLookup 29 v28_24 a1 false) w20 fun v30_25 =>
    J1 [v30_25] w20)))) fun vs26 _ w28 =>
  xIf (vs26.getD 0 undef) (
    R (.returned (.bool false)) w28) (
    xLoop [(.int .i64 0)] w28 fun J29 vs30 _ w32 =>
    xP Tryd.prog (sBin .lss 3 (vs30.getD 0 undef) (.int .i64 4)) fun v33_33 =>
    xIf v33_33 (
      xP Tryd.prog (sNil a0) fun v36_34 =>
    xP Tryd.prog (sFA 53 v36_34 0) fun v37_35 =>
    xR Tryd.prog (sLoad 50 v37_35) w32 fun v38_36 =>
    xP Tryd.prog (sIA 50 v38_36 a1) fun v40_37 =>
    xR Tryd.prog (sLoad 36 v40_37) w32 fun v41_38 =>
    xP Tryd.prog (sBin .add 3 a2 (vs30.getD 0 undef)) fun v44_39 =>
    xP Tryd.prog (sIA 36 v41_38 v44_39) fun v45_40 =>
    xR Tryd.prog (sLoad 5 v45_40) w32 fun v46_41 =>
    xP Tryd.prog (sBin .mul 3 (.int .i64 8) (vs30.getD 0 undef)) fun v49_42 =>
    xP Tryd.prog (sConv 3 83 v49_42) fun v50_43 =>
    xP Tryd.prog (sBin .shr 67 a3 v50_43) fun v51_44 =>
    xP Tryd.prog (sConv 67 5 v51_44) fun v52_45 =>
    xP Tryd.prog (sBin .xor 5 v46_41 v52_45) fun v53_46 =>
    xP Tryd.prog (sIA 36 v41_38 v44_39) fun v54_47 =>
    xE Tryd.prog (sStore 5 v54_47 v53_46) w32 fun _ w48 =>
    xP Tryd.prog (sBin .add 3 (vs30.getD 0 undef) (.int .i64 1)) fun v55_49 =>
    J29 [v55_49] w48) (
      xP Tryd.prog (sNil a0) fun v57_50 =>
  xP Tryd.prog (sFA 53 v57_50 2) fun v58_51 =>
  xR Tryd.prog (sLoad 29 v58_51) w32 fun v59_52 =>
  xE Tryd.prog (sMapUpdate 29 v59_52 a1 (.bool true)) w32 fun _ w53 =>
  R (.returned (.bool true)) w53))
theorem C_disk_Disk_Rot {a0 : Value} {a1 : Value} {a2 : Value} {a3 : Value} {w : World} {R : Ending → World → Prop} (h : S_disk_Disk_Rot a0 a1 a2 a3 w R) : Calls Tryd.prog 24 #[a0, a1, a2, a3] w R :=
  funcVC_sound (an := A_disk_Disk_Rot) (args := [a0, a1, a2, a3]) (k := 4) Tryd.func24 (by kernel_rfl) rfl
    (Eq.mp (show S_disk_Disk_Rot a0 a1 a2 a3 w R = funcVC Tryd.prog Tryd.f24 A_disk_Disk_Rot [a0, a1, a2, a3] w R by kernel_rfl) h)

/-- (*stave/disk.Disk).Die -/
def A_disk_Disk_Die : Ann := .nil
def S_disk_Disk_Die (a0 : Value) (w : World) (R : Ending → World → Prop) : Prop :=
  xE Tryd.prog (sCall 16 #[a0]) w fun _ w2 =>
  xP Tryd.prog (sNil a0) fun v5_3 =>
  xP Tryd.prog (sFA 53 v5_3 3) fun v6_4 =>
  xE Tryd.prog (sStore 4 v6_4 (.bool true)) w2 fun _ w5 =>
  R (.returned (.tuple #[])) w5
theorem C_disk_Disk_Die {a0 : Value} {w : World} {R : Ending → World → Prop} (h : S_disk_Disk_Die a0 w R) : Calls Tryd.prog 25 #[a0] w R :=
  funcVC_sound (an := A_disk_Disk_Die) (args := [a0]) (k := 1) Tryd.func25 (by kernel_rfl) rfl
    (Eq.mp (show S_disk_Disk_Die a0 w R = funcVC Tryd.prog Tryd.f25 A_disk_Disk_Die [a0] w R by kernel_rfl) h)

/-- errors.as -/
def A_errors_as : Ann := (.seq .nil (.one (.loop [0] (.one (.seq .nil (.seq (.seq .nil (.join [35] .nil .nil)) (.seq .nil (.one (.seq .nil (.seq .nil (.seq .nil (.seq (.seq .nil (.seq (.seq .nil (.one (.loop [50] (.seq .nil (.seq .nil (.join [] .nil .nil)))))) .nil)) .nil))))))))))))
def S_errors_as (a0 : Value) (a1 : Value) (a2 : Value) (a3 : Value) (w : World) (R : Ending → World → Prop) : Prop :=
  xE Tryd.prog (sBox 72 a2) w fun v6_1 w2 =>
  xLoop [a0] w2 fun J3 vs4 _ w6 =>
    xE Tryd.prog (sCall 30 #[(vs4.getD 0 undef)]) w6 fun v17_7 w8 =>
    xE Tryd.prog (sInvoke "AssignableTo" #[v17_7, a3]) w8 fun v19_9 w10 =>
    xIf v19_9 (
      xR Tryd.prog (sLoad 72 v6_1) w10 fun v20_11 =>
      xE Tryd.prog (sCall 32 #[v20_11]) w10 fun v21_12 w13 =>
      xE Tryd.prog (sCall 26 #[(vs4.getD 0 undef)]) w13 fun v23_14 w15 =>
      xE Tryd.prog (sCall 33 #[v21_12, v23_14]) w15 fun _ w17 =>
      R (.returned (.bool true)) w17) (
      xP Tryd.prog (sAssert (vs4.getD 0 undef) 25 89 true) fun v27_18 =>
    xP Tryd.prog (sExtract v27_18 0) fun v28_19 =>
    xP Tryd.prog (sExtract v27_18 1) fun v29_20 =>
    xJoin (fun J21 =>
      xIf v29_20 (
      xE Tryd.prog (sInvoke "As" #[v28_19, a1]) w10 fun v34_22 w23 =>
      J21 [v34_22] w23) (
      J21 [(.bool false)] w10)) fun vs24 _ w26 =>
    xIf (vs24.getD 0 undef) (
      R (.returned (.bool true)) w26) (
      xP Tryd.prog (sAssert (vs4.getD 0 undef) 25 92 true) fun v37_27 =>
    xP Tryd.prog (sExtract v37_27 1) fun v38_28 =>
    xP Tryd.prog (sExtract v37_27 0) fun v39_29 =>
    xIf v38_28 (
      xE Tryd.prog (sInvoke "Unwrap" #[v39_29]) w26 fun v41_30 w31 =>
      xR Tryd.prog (sEq .eql 25 true v41_30 (.nilIface)) w31 fun v43_32 =>
      xIf v43_32 (
        R (.returned (.bool false)) w31) (
        J3 [v41_30] w31)) (
      xP Tryd.prog (sAssert (vs4.getD 0 undef) 25 93 true) fun v44_33 =>
      xP Tryd.prog (sExtract v44_33 1) fun v45_34 =>
      xP Tryd.prog (sExtract v44_33 0) fun v46_35 =>
      xIf v45_34 (
        xE Tryd.prog (sInvoke "Unwrap" #[v46_35]) w26 fun v48_36 w37 =>
        xP Tryd.prog (sB .len #[94] #[v48_36]) fun v49_38 =>
        xLoop [(.int .i64 0)] w37 fun J39 vs40 _ w42 =>
          xP Tryd.prog (sBin .lss 3 (vs40.getD 0 undef) v49_38) fun v51_43 =>
          xIf v51_43 (
            xJoin (fun J44 =>
            xP Tryd.prog (sIA 94 v48_36 (vs40.getD 0 undef)) fun v52_45 =>
            xR Tryd.prog (sLoad 25 v52_45) w42 fun v53_46 =>
            xR Tryd.prog (sEq .eql 25 true v53_46 (.nilIface)) w42 fun v55_47 =>
            xIf v55_47 (
              J44 [] w42) (
              xR Tryd.prog (sLoad 72 v6_1) w42 fun v58_48 =>
            xE Tryd.prog (sCall 29 #[v53_46, a1, v58_48, a3]) w42 fun v60_49 w50 =>
            xIf v60_49 (
              R (.returned (.bool true)) w50) (
              J44 [] w50))) fun _ _ w53 =>
          xP Tryd.prog (sBin .add 3 (vs40.getD 0 undef) (.int .i64 1)) fun v61_54 =>
          J39 [v61_54] w53) (
            R (.returned (.bool false)) w42)) (
        R (.returned (.bool false)) w26))))
theorem C_errors_as {a0 : Value} {a1 : Value} {a2 : Value} {a3 : Value} {w : World} {R : Ending → World → Prop} (h : S_errors_as a0 a1 a2 a3 w R) : Calls Tryd.prog 29 #[a0, a1, a2, a3] w R :=
  funcVC_sound (an := A_errors_as) (args := [a0, a1, a2, a3]) (k := 4) Tryd.func29 (by kernel_rfl) rfl
    (Eq.mp (show S_errors_as a0 a1 a2 a3 w R = funcVC Tryd.prog Tryd.f29 A_errors_as [a0, a1, a2, a3] w R by kernel_rfl) h)

/-- errors.is -/
def A_errors_is : Ann := (.seq .nil (.one (.loop [0] (.one (.seq (.join [19] .nil .nil) (.seq (.seq .nil (.join [30] .nil .nil)) (.seq .nil (.one (.seq .nil (.seq .nil (.seq .nil (.seq (.seq .nil (.seq (.seq .nil (.one (.loop [45] .nil))) .nil)) .nil))))))))))))
def S_errors_is (a0 : Value) (a1 : Value) (a2 : Value) (w : World) (R : Ending → World → Prop) : Prop :=
  xLoop [a0] w fun J1 vs2 _ w4 =>
    xJoin (fun J5 =>
      xIf a2 (
      xR Tryd.prog (sEq .eql 25 false (vs2.getD 0 undef) a1) w4 fun v18_6 =>
      J5 [v18_6] w4) (
      J5 [(.bool false)] w4)) fun vs7 _ w9 =>
    xIf (vs7.getD 0 undef) (
      R (.returned (.bool true)) w9) (
      xP Tryd.prog (sAssert (vs2.getD 0 undef) 25 96 true) fun v22_10 =>
    xP Tryd.prog (sExtract v22_10 0) fun v23_11 =>
    xP Tryd.prog (sExtract v22_10 1) fun v24_12 =>
    xJoin (fun J13 =>
      xIf v24_12 (
      xE Tryd.prog (sInvoke "Is" #[v23_11, a1]) w9 fun v29_14 w15 =>
      J13 [v29_14] w15) (
      J13 [(.bool false)] w9)) fun vs16 _ w18 =>
    xIf (vs16.getD 0 undef) (
      R (.returned (.bool true)) w18) (
      xP Tryd.prog (sAssert (vs2.getD 0 undef) 25 92 true) fun v32_19 =>
    xP Tryd.prog (sExtract v32_19 1) fun v33_20 =>
    xP Tryd.prog (sExtract v32_19 0) fun v34_21 =>
    xIf v33_20 (
      xE Tryd.prog (sInvoke "Unwrap" #[v34_21]) w18 fun v36_22 w23 =>
      xR Tryd.prog (sEq .eql 25 true v36_22 (.nilIface)) w23 fun v38_24 =>
      xIf v38_24 (
        R (.returned (.bool false)) w23) (
        J1 [v36_22] w23)) (
      xP Tryd.prog (sAssert (vs2.getD 0 undef) 25 93 true) fun v39_25 =>
      xP Tryd.prog (sExtract v39_25 1) fun v40_26 =>
      xP Tryd.prog (sExtract v39_25 0) fun v41_27 =>
      xIf v40_26 (
        xE Tryd.prog (sInvoke "Unwrap" #[v41_27]) w18 fun v43_28 w29 =>
        xP Tryd.prog (sB .len #[94] #[v43_28]) fun v44_30 =>
        xLoop [(.int .i64 0)] w29 fun J31 vs32 _ w34 =>
          xP Tryd.prog (sBin .lss 3 (vs32.getD 0 undef) v44_30) fun v46_35 =>
          xIf v46_35 (
            xP Tryd.prog (sIA 94 v43_28 (vs32.getD 0 undef)) fun v47_36 =>
          xR Tryd.prog (sLoad 25 v47_36) w34 fun v48_37 =>
          xE Tryd.prog (sCall 31 #[v48_37, a1, a2]) w34 fun v52_38 w39 =>
          xIf v52_38 (
            R (.returned (.bool true)) w39) (
            xP Tryd.prog (sBin .add 3 (vs32.getD 0 undef) (.int .i64 1)) fun v53_40 =>
          J31 [v53_40] w39)) (
            R (.returned (.bool false)) w34)) (
        R (.returned (.bool false)) w18))))
theorem C_errors_is {a0 : Value} {a1 : Value} {a2 : Value} {w : World} {R : Ending → World → Prop} (h : S_errors_is a0 a1 a2 w R) : Calls Tryd.prog 31 #[a0, a1, a2] w R :=
  funcVC_sound (an := A_errors_is) (args := [a0, a1, a2]) (k := 3) Tryd.func31 (by kernel_rfl) rfl
    (Eq.mp (show S_errors_is a0 a1 a2 w R = funcVC Tryd.prog Tryd.f31 A_errors_is [a0, a1, a2] w R by kernel_rfl) h)

/-- (stave/api.Fault).Unwrap -/
def A_api_Fault_Unwrap : Ann := .nil
def S_api_Fault_Unwrap (a0 : Value) (w : World) (R : Ending → World → Prop) : Prop :=
  xE Tryd.prog (sBox 61 a0) w fun v1_1 w2 =>
  xP Tryd.prog (sFA 61 v1_1 2) fun v3_3 =>
  xR Tryd.prog (sLoad 25 v3_3) w2 fun v4_4 =>
  R (.returned v4_4) w2
theorem C_api_Fault_Unwrap {a0 : Value} {w : World} {R : Ending → World → Prop} (h : S_api_Fault_Unwrap a0 w R) : Calls Tryd.prog 53 #[a0] w R :=
  funcVC_sound (an := A_api_Fault_Unwrap) (args := [a0]) (k := 1) Tryd.func53 (by kernel_rfl) rfl
    (Eq.mp (show S_api_Fault_Unwrap a0 w R = funcVC Tryd.prog Tryd.f53 A_api_Fault_Unwrap [a0] w R by kernel_rfl) h)

/-- gosem.cut.vars -/
def A_gosem_cut_vars : Ann := .nil
def S_gosem_cut_vars (w : World) (R : Ending → World → Prop) : Prop :=
  xP Tryd.prog (sIface 127 (.pointer none)) fun v0_1 =>
  xE Tryd.prog (sCall 30 #[v0_1]) w fun v1_2 w3 =>
  xE Tryd.prog (sInvoke "Elem" #[v1_2]) w3 fun v2_4 w5 =>
  xE Tryd.prog (sStore 75 (.pointer (some ⟨0, 0, none⟩)) v2_4) w5 fun _ w6 =>
  R (.returned (.tuple #[])) w6
theorem C_gosem_cut_vars {w : World} {R : Ending → World → Prop} (h : S_gosem_cut_vars  w R) : Calls Tryd.prog 72 #[] w R :=
  funcVC_sound (an := A_gosem_cut_vars) (args := []) (k := 0) Tryd.func72 (by kernel_rfl) rfl
    (Eq.mp (show S_gosem_cut_vars  w R = funcVC Tryd.prog Tryd.f72 A_gosem_cut_vars [] w R by kernel_rfl) h)

end Go.Proofs.YtfjoepdmjopelaaDoor
