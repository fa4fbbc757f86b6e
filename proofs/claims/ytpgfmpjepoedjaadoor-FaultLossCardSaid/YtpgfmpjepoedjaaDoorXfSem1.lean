import Derived.Test.YtpgfmpjepoedjaaDoorXEnt
import Derived.Test.YtpgfmpjepoedjaaDoorRows
namespace Go.Proofs.YtpgfmpjepoedjaaDoor
set_option linter.unusedSimpArgs false
set_option linter.unusedVariables false
open Go.X
set_option maxRecDepth 100000

/-- stave/stavelaw1.FaultRuns -/
def A_stavelaw1_FaultRuns : Ann := .nil
def S_stavelaw1_FaultRuns (w : World) (R : Ending → World → Prop) : Prop :=
  xP Tryd.prog (sIface 25 (.int .i64 8)) fun v8_1 =>
  xE Tryd.prog (sCall 7 #[(.string (ByteArray.mk #[97])), (.int .i64 1), v8_1]) w fun v9_2 w3 =>
  xE Tryd.prog (sCall 7 #[(.string (ByteArray.mk #[98])), (.int .i64 2), v9_2]) w3 fun v10_4 w5 =>
  xE Tryd.prog (sCall 8 #[v10_4]) w5 fun v13_6 w7 =>
  xP Tryd.prog (sExtract v13_6 0) fun v14_8 =>
  xP Tryd.prog (sExtract v13_6 1) fun v15_9 =>
  xP Tryd.prog (sExtract v13_6 2) fun v16_10 =>
  xP Tryd.prog (sBuild 29 #[(0, (.int .i64 7)), (1, (.int .i64 1)), (2, (.int .i64 2))]) fun v17_11 =>
  xP Tryd.prog (sIface 29 v17_11) fun v18_12 =>
  xE Tryd.prog (sCall 7 #[(.string (ByteArray.mk #[99])), (.int .i64 3), v18_12]) w7 fun v19_13 w14 =>
  xE Tryd.prog (sCall 9 #[v19_13]) w14 fun v22_15 w16 =>
  xP Tryd.prog (sExtract v22_15 0) fun v23_17 =>
  xP Tryd.prog (sExtract v22_15 1) fun v24_18 =>
  xE Tryd.prog (sAlloc 29) w16 fun v6_19 w20 =>
  xE Tryd.prog (sStore 29 v6_19 v23_17) w20 fun _ w21 =>
  xE Tryd.prog (sCall 10 #[v10_4]) w21 fun v26_22 w23 =>
  xR Tryd.prog (sEq .eql 25 true v26_22 (.int .i64 8)) w23 fun v27_24 =>
  xIf v27_24 (
  xR Tryd.prog (sEq .eql 9 true v14_8 (.string (ByteArray.mk #[97]))) w23 fun v30_25 =>
  xIf v30_25 (
  xR Tryd.prog (sEq .eql 3 true v15_9 (.int .i64 1)) w23 fun v34_26 =>
  xIf v34_26 (
  xIf v16_10 (
  xE Tryd.prog (sCall 12 #[v10_4]) w23 fun v41_27 w28 =>
  xE Tryd.prog (sBuildSlice 34 2 #[(0, (.string (ByteArray.mk #[98]))), (1, (.string (ByteArray.mk #[97])))]) w28 fun v42_29 w30 =>
  xE Tryd.prog (sCall 11 #[v41_27, v42_29]) w30 fun v43_31 w32 =>
  xIf v43_31 (
  xE Tryd.prog (sBuildSlice 53 2 #[(0, (.int .i64 10)), (1, (.int .i64 8))]) w32 fun v47_33 w34 =>
  xE Tryd.prog (sCall 13 #[v10_4, v47_33]) w34 fun v48_35 w36 =>
  xR Tryd.prog (sEq .eql 3 true v48_35 (.int .i64 1)) w36 fun v49_37 =>
  xIf v49_37 (
  xE Tryd.prog (sCall 10 #[v19_13]) w36 fun v53_38 w39 =>
  xR Tryd.prog (sEq .eql 25 true v53_38 (.int .i64 6)) w39 fun v54_40 =>
  xIf v54_40 (
  xIf v24_18 (
  xR Tryd.prog (sLoad 29 v6_19) w39 fun v60_41 =>
  xP Tryd.prog (sBuild 29 #[(0, (.int .i64 7)), (1, (.int .i64 1)), (2, (.int .i64 2))]) fun v61_42 =>
  xR Tryd.prog (sEq .eql 29 false v60_41 v61_42) w39 fun v62_43 =>
  xIf v62_43 (
  xE Tryd.prog (sBuildSlice 53 1 #[(0, (.int .i64 6))]) w39 fun v66_44 w45 =>
  xE Tryd.prog (sCall 13 #[v19_13, v66_44]) w45 fun v67_46 w47 =>
  xR Tryd.prog (sEq .eql 3 true v67_46 (.int .i64 0)) w47 fun v68_48 =>
  R (.returned v68_48) w47) (
  R (.returned (.bool false)) w39)) (
  R (.returned (.bool false)) w39)) (
  R (.returned (.bool false)) w39)) (
  R (.returned (.bool false)) w36)) (
  R (.returned (.bool false)) w32)) (
  R (.returned (.bool false)) w23)) (
  R (.returned (.bool false)) w23)) (
  R (.returned (.bool false)) w23)) (
  R (.returned (.bool false)) w23)
theorem C_stavelaw1_FaultRuns {w : World} {R : Ending → World → Prop} (h : S_stavelaw1_FaultRuns  w R) : Calls Tryd.prog 3 #[] w R :=
  funcVC_sound (an := A_stavelaw1_FaultRuns) (args := []) (k := 0) Tryd.func3 (by kernel_rfl) rfl
    (Eq.mp (show S_stavelaw1_FaultRuns  w R = funcVC Tryd.prog Tryd.f3 A_stavelaw1_FaultRuns [] w R by kernel_rfl) h)

/-- stave/stavelaw1.FaultNone -/
def A_stavelaw1_FaultNone : Ann := (.seq .nil (.seq .nil (.seq (.seq .nil (.one (.loop [5, 6] (.seq (.join [19] .nil .nil) (.seq (.one (.seq (.draw (.pre [0, 1, 2, 3, 4, 5, 6, 7, 8, 9, 10, 11, 12] .nil) [0, 0, 3, 7, 15, 0, 0, 96, 224, 480, 0, 2047, 4095]) .nil)) .nil))))) .nil)))
def S_stavelaw1_FaultNone (a0 : Value) (a1 : Value) (w : World) (R : Ending → World → Prop) : Prop :=
  xLoop [(.nilIface), (.int .i64 0)] w fun J1 vs2 _ w4 =>
    xJoin (fun J5 =>
      xP Tryd.prog (sB .len #[38] #[a0]) fun v14_6 =>
      xP Tryd.prog (sBin .lss 3 (vs2.getD 1 undef) v14_6) fun v15_7 =>
      xIf v15_7 (
      xP Tryd.prog (sBin .lss 3 (vs2.getD 1 undef) (.int .i64 9)) fun v18_8 =>
      J5 [v18_8] w4) (
      J5 [(.bool false)] w4)) fun vs9 _ w11 =>
    xIf (vs9.getD 0 undef) (
      xP Tryd.prog (sIA 38 a0 (vs2.getD 1 undef)) fun v24_12 =>
    xP Tryd.prog (sFA 40 v24_12 0) fun v25_13 =>
    xR Tryd.prog (sLoad 9 v25_13) (w11.drew) fun v26_14 =>
    xP Tryd.prog (sIA 38 a0 (vs2.getD 1 undef)) fun v29_15 =>
    xP Tryd.prog (sFA 40 v29_15 1) fun v30_16 =>
    xR Tryd.prog (sLoad 3 v30_16) (w11.drew) fun v31_17 =>
    xE Tryd.prog (sCall 7 #[v26_14, v31_17, (vs2.getD 0 undef)]) (w11.drew) fun v33_18 w19 =>
    xR Tryd.prog (sEq .neq 23 true v33_18 (.nilIface)) w19 fun v35_20 =>
    xIf v35_20 (
      R (.returned (.bool false)) w19) (
      xP Tryd.prog (sBin .add 3 (vs2.getD 1 undef) (.int .i64 1)) fun v21_21 =>
    J1 [v33_18, v21_21] w19)) (
      xE Tryd.prog (sCall 8 #[(vs2.getD 0 undef)]) w11 fun v38_22 w23 =>
  xP Tryd.prog (sExtract v38_22 0) fun _ =>
  xP Tryd.prog (sExtract v38_22 1) fun _ =>
  xP Tryd.prog (sExtract v38_22 2) fun v41_26 =>
  xE Tryd.prog (sCall 9 #[(vs2.getD 0 undef)]) w23 fun v44_27 w28 =>
  xP Tryd.prog (sExtract v44_27 0) fun v45_29 =>
  xP Tryd.prog (sExtract v44_27 1) fun v46_30 =>
  xE Tryd.prog (sAlloc 29) w28 fun v10_31 w32 =>
  xE Tryd.prog (sStore 29 v10_31 v45_29) w32 fun _ w33 =>
  xE Tryd.prog (sCall 10 #[(vs2.getD 0 undef)]) w33 fun v48_34 w35 =>
  xR Tryd.prog (sEq .eql 25 true v48_34 (.int .i64 0)) w35 fun v49_36 =>
  xIf v49_36 (
  xP Tryd.prog (sUn .not v41_26) fun v52_37 =>
  xIf v52_37 (
  xP Tryd.prog (sUn .not v46_30) fun v56_38 =>
  xIf v56_38 (
  xE Tryd.prog (sCall 12 #[(vs2.getD 0 undef)]) w35 fun v60_39 w40 =>
  xP Tryd.prog (sB .len #[34] #[v60_39]) fun v61_41 =>
  xR Tryd.prog (sEq .eql 3 true v61_41 (.int .i64 0)) w40 fun v62_42 =>
  xIf v62_42 (
  xE Tryd.prog (sCall 14 #[a1, (.int .i64 1), (.int .i64 14)]) w40 fun v67_43 w44 =>
  xE Tryd.prog (sBuildSlice 53 1 #[(0, v67_43)]) w44 fun v68_45 w46 =>
  xE Tryd.prog (sCall 13 #[(vs2.getD 0 undef), v68_45]) w46 fun v69_47 w48 =>
  xR Tryd.prog (sEq .eql 3 true v69_47 (.int .i64 (-1))) w48 fun v70_49 =>
  xIf v70_49 (
  xP Tryd.prog (sIface 25 (.int .i64 1)) fun v73_50 =>
  xE Tryd.prog (sCall 13 #[v73_50, (.slice none 0 0)]) w48 fun v74_51 w52 =>
  xR Tryd.prog (sEq .eql 3 true v74_51 (.int .i64 (-1))) w52 fun v75_53 =>
  xIf v75_53 (
  xE Tryd.prog (sCall 3 #[]) w52 fun v78_54 w55 =>
  R (.returned v78_54) w55) (
  R (.returned (.bool false)) w52)) (
  R (.returned (.bool false)) w48)) (
  R (.returned (.bool false)) w40)) (
  R (.returned (.bool false)) w35)) (
  R (.returned (.bool false)) w35)) (
  R (.returned (.bool false)) w35))
theorem C_stavelaw1_FaultNone {a0 : Value} {a1 : Value} {w : World} {R : Ending → World → Prop} (h : S_stavelaw1_FaultNone a0 a1 w R) : Calls Tryd.prog 4 #[a0, a1] w R :=
  funcVC_sound (an := A_stavelaw1_FaultNone) (args := [a0, a1]) (k := 2) Tryd.func4 (by kernel_rfl) rfl
    (Eq.mp (show S_stavelaw1_FaultNone a0 a1 w R = funcVC Tryd.prog Tryd.f4 A_stavelaw1_FaultNone [a0, a1] w R by kernel_rfl) h)

/-- stave/stavelaw1.FaultInner -/
def A_stavelaw1_FaultInner : Ann := (.seq .nil (.seq .nil (.seq .nil (.seq (.seq .nil (.one (.loop [10, 11] (.seq (.join [31] .nil .nil) (.seq (.one (.seq .nil (.seq (.draw (.pre [0, 1, 2, 3, 4, 5, 6, 7, 8, 9, 10, 11, 12] .nil) [0, 0, 3, 7, 15, 0, 0, 96, 224, 480, 0, 2047, 4095]) (.seq .nil (.seq (.join [73] (.draw (.pre [0, 1, 2, 3, 4, 5, 6, 7, 8, 9, 10, 11, 12, 13, 14, 15, 16, 17, 18, 19, 20, 21, 22, 23] .nil) [0, 1, 0, 4, 12, 31, 63, 127, 255, 511, 127, 127, 3199, 7295, 15487, 32767, 65535, 131071, 262143, 524287, 262143, 2097151, 4194303, 8388607]) .nil) (.seq .nil (.join [103] .nil .nil))))))) .nil))))) .nil))))
def S_stavelaw1_FaultInner (a0 : Value) (a1 : Value) (a2 : Value) (a3 : Value) (w : World) (R : Ending → World → Prop) : Prop :=
  xE Tryd.prog (sCall 14 #[a0, (.int .i64 1), (.int .i64 14)]) w fun v18_1 w2 =>
  xP Tryd.prog (sIface 25 v18_1) fun v22_3 =>
  xE Tryd.prog (sCall 7 #[a2, a3, v22_3]) w2 fun v23_4 w5 =>
  xLoop [v23_4, (.int .i64 0)] w5 fun J6 vs7 _ w9 =>
    xJoin (fun J10 =>
      xP Tryd.prog (sB .len #[38] #[a1]) fun v26_11 =>
      xP Tryd.prog (sBin .lss 3 (vs7.getD 1 undef) v26_11) fun v27_12 =>
      xIf v27_12 (
      xP Tryd.prog (sBin .lss 3 (vs7.getD 1 undef) (.int .i64 30)) fun v30_13 =>
      J10 [v30_13] w9) (
      J10 [(.bool false)] w9)) fun vs14 _ w16 =>
    xIf (vs14.getD 0 undef) (
      xE Tryd.prog (sCall 12 #[(vs7.getD 0 undef)]) w16 fun v35_17 w18 =>
    xP Tryd.prog (sIA 38 a1 (vs7.getD 1 undef)) fun v38_19 =>
    xP Tryd.prog (sFA 40 v38_19 0) fun v39_20 =>
    xR Tryd.prog (sLoad 9 v39_20) (w18.drew) fun v40_21 =>
    xP Tryd.prog (sIA 38 a1 (vs7.getD 1 undef)) fun v43_22 =>
    xP Tryd.prog (sFA 40 v43_22 1) fun v44_23 =>
    xR Tryd.prog (sLoad 3 v44_23) (w18.drew) fun v45_24 =>
    xE Tryd.prog (sCall 7 #[v40_21, v45_24, (vs7.getD 0 undef)]) (w18.drew) fun v47_25 w26 =>
    xE Tryd.prog (sCall 12 #[v47_25]) w26 fun v49_27 w28 =>
    xJoin (fun J29 =>
      xP Tryd.prog (sB .len #[34] #[v49_27]) fun v51_30 =>
      xP Tryd.prog (sB .len #[34] #[v35_17]) fun v53_31 =>
      xP Tryd.prog (sBin .add 3 v53_31 (.int .i64 1)) fun v54_32 =>
      xR Tryd.prog (sEq .neq 3 false v51_30 v54_32) (w28.drew) fun v55_33 =>
      xIf v55_33 (
      J29 [(.bool true)] (w28.drew)) (
      xP Tryd.prog (sIA 34 v49_27 (.int .i64 0)) fun v58_34 =>
      xR Tryd.prog (sLoad 9 v58_34) (w28.drew) fun v59_35 =>
      xP Tryd.prog (sIA 38 a1 (vs7.getD 1 undef)) fun v62_36 =>
      xP Tryd.prog (sFA 40 v62_36 0) fun v63_37 =>
      xR Tryd.prog (sLoad 9 v63_37) (w28.drew) fun v64_38 =>
      xR Tryd.prog (sEq .neq 9 false v59_35 v64_38) (w28.drew) fun v65_39 =>
      xIf v65_39 (
      J29 [(.bool true)] (w28.drew)) (
      xP Tryd.prog (sSlice 34 v49_27 (some (.int .i64 1)) none none) fun v69_40 =>
      xE Tryd.prog (sCall 11 #[v69_40, v35_17]) (w28.drew) fun v71_41 w42 =>
      xP Tryd.prog (sUn .not v71_41) fun v72_43 =>
      J29 [v72_43] w42))) fun vs44 _ w46 =>
    xIf (vs44.getD 0 undef) (
      R (.returned (.bool false)) w46) (
      xE Tryd.prog (sCall 8 #[v47_25]) w46 fun v76_47 w48 =>
    xP Tryd.prog (sExtract v76_47 0) fun v77_49 =>
    xP Tryd.prog (sExtract v76_47 1) fun v78_50 =>
    xP Tryd.prog (sExtract v76_47 2) fun v79_51 =>
    xJoin (fun J52 =>
      xP Tryd.prog (sUn .not v79_51) fun v81_53 =>
      xIf v81_53 (
      J52 [(.bool true)] w48) (
      xR Tryd.prog (sEq .neq 9 false v77_49 a2) w48 fun v85_54 =>
      xIf v85_54 (
      J52 [(.bool true)] w48) (
      xR Tryd.prog (sEq .neq 3 false v78_50 a3) w48 fun v90_55 =>
      xIf v90_55 (
      J52 [(.bool true)] w48) (
      xE Tryd.prog (sCall 10 #[v47_25]) w48 fun v94_56 w57 =>
      xR Tryd.prog (sEq .neq 25 false v94_56 v18_1) w57 fun v96_58 =>
      xIf v96_58 (
      J52 [(.bool true)] w57) (
      xP Tryd.prog (sBuild 29 #[]) fun v100_59 =>
      xP Tryd.prog (sIface 29 v100_59) fun v101_60 =>
      xE Tryd.prog (sCall 15 #[v47_25, v101_60]) w57 fun v102_61 w62 =>
      J52 [v102_61] w62))))) fun vs63 _ w65 =>
    xIf (vs63.getD 0 undef) (
      R (.returned (.bool false)) w65) (
      xP Tryd.prog (sBin .add 3 (vs7.getD 1 undef) (.int .i64 1)) fun v33_66 =>
    J6 [v47_25, v33_66] w65))) (
      xE Tryd.prog (sCall 3 #[]) w16 fun v104_67 w68 =>
  R (.returned v104_67) w68)
theorem C_stavelaw1_FaultInner {a0 : Value} {a1 : Value} {a2 : Value} {a3 : Value} {w : World} {R : Ending → World → Prop} (h : S_stavelaw1_FaultInner a0 a1 a2 a3 w R) : Calls Tryd.prog 5 #[a0, a1, a2, a3] w R :=
  funcVC_sound (an := A_stavelaw1_FaultInner) (args := [a0, a1, a2, a3]) (k := 4) Tryd.func5 (by kernel_rfl) rfl
    (Eq.mp (show S_stavelaw1_FaultInner a0 a1 a2 a3 w R = funcVC Tryd.prog Tryd.f5 A_stavelaw1_FaultInner [a0, a1, a2, a3] w R by kernel_rfl) h)

/-- stave/stavelaw1.FaultLoss -/
def A_stavelaw1_FaultLoss : Ann := (.seq .nil (.seq .nil (.seq (.seq .nil (.one (.loop [9, 10] (.seq (.join [23] .nil .nil) (.seq (.one (.draw (.pre [0, 1, 2, 3, 4, 5, 6, 7, 8, 9, 10, 11, 12] .nil) [0, 0, 3, 7, 15, 0, 0, 96, 224, 480, 0, 2047, 4095])) .nil))))) (.seq .nil (.seq .nil (.seq (.draw (.pre [0, 1, 2, 3, 4, 5, 6, 7, 8, 9, 10, 11, 12, 13, 14, 16, 17, 15, 18, 19, 20, 21, 22, 23, 25, 26, 27, 24, 28, 29, 30, 31, 32, 36, 37, 33, 34, 35, 38, 39, 40, 41, 42, 43] .nil) [0, 1, 3, 3, 15, 31, 63, 127, 127, 511, 1023, 2047, 4095, 4095, 12287, 32767, 4095, 69631, 262143, 524287, 1048575, 2097151, 2097151, 6291455, 16777215, 2097151, 2097151, 102760447, 268435455, 536870911, 1073741823, 2147483647, 2147483647, 6442450943, 17179869183, 34359738367, 2147483647, 70866960383, 274877906943, 549755813887, 1099511627775, 2199023255551, 4398046511103, 8796093022207]) .nil))))))
def S_stavelaw1_FaultLoss (a0 : Value) (a1 : Value) (a2 : Value) (a3 : Value) (w : World) (R : Ending → World → Prop) : Prop :=
  xE Tryd.prog (sBox 29 a0) w fun v4_1 w2 =>
  xE Tryd.prog (sBox 29 a1) w2 fun v5_3 w4 =>
  xR Tryd.prog (sLoad 29 v4_1) w4 fun v14_5 =>
  xP Tryd.prog (sIface 29 v14_5) fun v15_6 =>
  xLoop [v15_6, (.int .i64 0)] w4 fun J7 vs8 _ w10 =>
    xJoin (fun J11 =>
      xP Tryd.prog (sB .len #[38] #[a2]) fun v18_12 =>
      xP Tryd.prog (sBin .lss 3 (vs8.getD 1 undef) v18_12) fun v19_13 =>
      xIf v19_13 (
      xP Tryd.prog (sBin .lss 3 (vs8.getD 1 undef) (.int .i64 9)) fun v22_14 =>
      J11 [v22_14] w10) (
      J11 [(.bool false)] w10)) fun vs15 _ w17 =>
    xIf (vs15.getD 0 undef) (
      xP Tryd.prog (sIA 38 a2 (vs8.getD 1 undef)) fun v28_18 =>
    xP Tryd.prog (sFA 40 v28_18 0) fun v29_19 =>
    xR Tryd.prog (sLoad 9 v29_19) (w17.drew) fun v30_20 =>
    xP Tryd.prog (sIA 38 a2 (vs8.getD 1 undef)) fun v33_21 =>
    xP Tryd.prog (sFA 40 v33_21 1) fun v34_22 =>
    xR Tryd.prog (sLoad 3 v34_22) (w17.drew) fun v35_23 =>
    xE Tryd.prog (sCall 7 #[v30_20, v35_23, (vs8.getD 0 undef)]) (w17.drew) fun v37_24 w25 =>
    xP Tryd.prog (sBin .add 3 (vs8.getD 1 undef) (.int .i64 1)) fun v25_26 =>
    J7 [v37_24, v25_26] w25) (
      xE Tryd.prog (sCall 14 #[a3, (.int .i64 1), (.int .i64 14)]) w17 fun v39_27 w28 =>
  xE Tryd.prog (sCall 9 #[(vs8.getD 0 undef)]) w28 fun v42_29 w30 =>
  xP Tryd.prog (sExtract v42_29 0) fun v43_31 =>
  xP Tryd.prog (sExtract v42_29 1) fun v44_32 =>
  xE Tryd.prog (sAlloc 29) w30 fun v12_33 w34 =>
  xE Tryd.prog (sStore 29 v12_33 v43_31) w34 fun _ w35 =>
  xIf v44_32 (
  xR Tryd.prog (sLoad 29 v12_33) (w35.drew) fun v47_36 =>
  xR Tryd.prog (sLoad 29 v4_1) (w35.drew) fun v48_37 =>
  xR Tryd.prog (sEq .eql 29 false v47_36 v48_37) (w35.drew) fun v49_38 =>
  xIf v49_38 (
  xP Tryd.prog (sIface 25 (.int .i64 6)) fun v53_39 =>
  xE Tryd.prog (sCall 15 #[(vs8.getD 0 undef), v53_39]) (w35.drew) fun v54_40 w41 =>
  xIf v54_40 (
  xP Tryd.prog (sIface 25 v39_27) fun v59_42 =>
  xR Tryd.prog (sEq .eql 25 true v39_27 (.int .i64 6)) w41 fun v62_43 =>
  xE Tryd.prog (sCall 15 #[(vs8.getD 0 undef), v59_42]) w41 fun v60_44 w45 =>
  xStill Tryd.prog (sEq .eql 25 true v39_27 (.int .i64 6)) v62_43 w45 <|
  xR Tryd.prog (sEq .eql 4 false v60_44 v62_43) w45 fun v63_46 =>
  xIf v63_46 (
  xR Tryd.prog (sLoad 29 v5_3) w45 fun v67_47 =>
  xP Tryd.prog (sIface 29 v67_47) fun v68_48 =>
  xR Tryd.prog (sLoad 29 v4_1) w45 fun v70_49 =>
  xR Tryd.prog (sLoad 29 v5_3) w45 fun v71_50 =>
  xR Tryd.prog (sEq .eql 29 false v70_49 v71_50) w45 fun v72_51 =>
  xE Tryd.prog (sCall 15 #[(vs8.getD 0 undef), v68_48]) w45 fun v69_52 w53 =>
  xStill Tryd.prog (sEq .eql 29 false v70_49 v71_50) v72_51 w53 <|
  xStill Tryd.prog (sLoad 29 v5_3) v71_50 w53 <|
  xStill Tryd.prog (sLoad 29 v4_1) v70_49 w53 <|
  xR Tryd.prog (sEq .eql 4 false v69_52 v72_51) w53 fun v73_54 =>
  xIf v73_54 (
  xR Tryd.prog (sEq .neq 25 true v39_27 (.int .i64 6)) w53 fun v82_55 =>
  xE Tryd.prog (sBuildSlice 53 1 #[(0, v39_27)]) w53 fun v78_56 w57 =>
  xStill Tryd.prog (sEq .neq 25 true v39_27 (.int .i64 6)) v82_55 w57 <|
  xE Tryd.prog (sCall 13 #[(vs8.getD 0 undef), v78_56]) w57 fun v79_58 w59 =>
  xStill Tryd.prog (sEq .neq 25 true v39_27 (.int .i64 6)) v82_55 w59 <|
  xR Tryd.prog (sEq .eql 3 true v79_58 (.int .i64 (-1))) w59 fun v80_60 =>
  xR Tryd.prog (sEq .eql 4 false v80_60 v82_55) w59 fun v83_61 =>
  xIf v83_61 (
  xE Tryd.prog (sCall 3 #[]) w59 fun v86_62 w63 =>
  R (.returned v86_62) w63) (
  R (.returned (.bool false)) w59)) (
  R (.returned (.bool false)) w53)) (
  R (.returned (.bool false)) w45)) (
  R (.returned (.bool false)) w41)) (
  R (.returned (.bool false)) (w35.drew))) (
  R (.returned (.bool false)) (w35.drew)))
theorem C_stavelaw1_FaultLoss {a0 : Value} {a1 : Value} {a2 : Value} {a3 : Value} {w : World} {R : Ending → World → Prop} (h : S_stavelaw1_FaultLoss a0 a1 a2 a3 w R) : Calls Tryd.prog 6 #[a0, a1, a2, a3] w R :=
  funcVC_sound (an := A_stavelaw1_FaultLoss) (args := [a0, a1, a2, a3]) (k := 4) Tryd.func6 (by kernel_rfl) rfl
    (Eq.mp (show S_stavelaw1_FaultLoss a0 a1 a2 a3 w R = funcVC Tryd.prog Tryd.f6 A_stavelaw1_FaultLoss [a0, a1, a2, a3] w R by kernel_rfl) h)

/-- stave/fault.Wrap -/
def A_fault_Wrap : Ann := .nil
def S_fault_Wrap (a0 : Value) (a1 : Value) (a2 : Value) (w : World) (R : Ending → World → Prop) : Prop :=
  xR Tryd.prog (sEq .eql 23 true a2 (.nilIface)) w fun v8_1 =>
  xIf v8_1 (
    R (.returned (.nilIface)) w) (
    xP Tryd.prog (sBuild 47 #[(0, a0), (1, a1), (2, a2)]) fun v12_2 =>
  xP Tryd.prog (sIface 47 v12_2) fun v13_3 =>
  R (.returned v13_3) w)
theorem C_fault_Wrap {a0 : Value} {a1 : Value} {a2 : Value} {w : World} {R : Ending → World → Prop} (h : S_fault_Wrap a0 a1 a2 w R) : Calls Tryd.prog 7 #[a0, a1, a2] w R :=
  funcVC_sound (an := A_fault_Wrap) (args := [a0, a1, a2]) (k := 3) Tryd.func7 (by kernel_rfl) rfl
    (Eq.mp (show S_fault_Wrap a0 a1 a2 w R = funcVC Tryd.prog Tryd.f7 A_fault_Wrap [a0, a1, a2] w R by kernel_rfl) h)

/-- stave/fault.Where -/
def A_fault_Where : Ann := (.seq .nil (.seq .nil (.seq .nil (.seq .nil (.seq (.draw (.pre [0, 1, 2, 3, 4, 5, 6] .nil) [0, 1, 0, 4, 3, 31, 63]) .nil)))))
def S_fault_Where (a0 : Value) (w : World) (R : Ending → World → Prop) : Prop :=
  xE Tryd.prog (sCall 16 #[a0]) w fun v8_1 w2 =>
  xP Tryd.prog (sB .len #[48] #[v8_1]) fun v10_3 =>
  xR Tryd.prog (sEq .eql 3 true v10_3 (.int .i64 0)) w2 fun v11_4 =>
  xIf v11_4 (
    R (.returned (.tuple #[(.string (ByteArray.mk #[])), (.int .i64 0), (.bool false)])) w2) (
    xP Tryd.prog (sB .len #[48] #[v8_1]) fun v14_5 =>
  xP Tryd.prog (sBin .sub 3 v14_5 (.int .i64 1)) fun v15_6 =>
  xP Tryd.prog (sIA 48 v8_1 v15_6) fun v16_7 =>
  xR Tryd.prog (sLoad 47 v16_7) w2 fun v17_8 =>
  xE Tryd.prog (sAlloc 47) w2 fun v6_9 w10 =>
  xE Tryd.prog (sStore 47 v6_9 v17_8) w10 fun _ w11 =>
  xP Tryd.prog (sFA 47 v6_9 0) fun v18_12 =>
  xR Tryd.prog (sLoad 9 v18_12) (w11.drew) fun v19_13 =>
  xP Tryd.prog (sFA 47 v6_9 1) fun v20_14 =>
  xR Tryd.prog (sLoad 3 v20_14) (w11.drew) fun v21_15 =>
  R (.returned (.tuple #[v19_13, v21_15, (.bool true)])) (w11.drew))
theorem C_fault_Where {a0 : Value} {w : World} {R : Ending → World → Prop} (h : S_fault_Where a0 w R) : Calls Tryd.prog 8 #[a0] w R :=
  funcVC_sound (an := A_fault_Where) (args := [a0]) (k := 1) Tryd.func8 (by kernel_rfl) rfl
    (Eq.mp (show S_fault_Where a0 w R = funcVC Tryd.prog Tryd.f8 A_fault_Where [a0] w R by kernel_rfl) h)

/-- stave/fault.Lost -/
def A_fault_Lost : Ann := .nil
def S_fault_Lost (a0 : Value) (w : World) (R : Ending → World → Prop) : Prop :=
  xE Tryd.prog (sAlloc 29) w fun v2_1 w2 =>
  xE Tryd.prog (sAlloc 29) w2 fun v4_3 w4 =>
  xP Tryd.prog (sIface 51 v4_3) fun v6_5 =>
  xE Tryd.prog (sCall 17 #[a0, v6_5]) w4 fun v7_6 w7 =>
  xP Tryd.prog (sUn .not v7_6) fun v8_8 =>
  xIf v8_8 (
    xP Tryd.prog (sBuild 29 #[]) fun v9_9 =>
    xE Tryd.prog (sStore 29 v2_1 v9_9) w7 fun _ w10 =>
    xR Tryd.prog (sLoad 29 v2_1) w10 fun r11 => R (.returned (.tuple #[r11, (.bool false)])) w10) (
    xR Tryd.prog (sLoad 29 v4_3) w7 fun v10_12 =>
  xE Tryd.prog (sStore 29 v2_1 v10_12) w7 fun _ w13 =>
  xR Tryd.prog (sLoad 29 v2_1) w13 fun r14 => R (.returned (.tuple #[r14, (.bool true)])) w13)
theorem C_fault_Lost {a0 : Value} {w : World} {R : Ending → World → Prop} (h : S_fault_Lost a0 w R) : Calls Tryd.prog 9 #[a0] w R :=
  funcVC_sound (an := A_fault_Lost) (args := [a0]) (k := 1) Tryd.func9 (by kernel_rfl) rfl
    (Eq.mp (show S_fault_Lost a0 w R = funcVC Tryd.prog Tryd.f9 A_fault_Lost [a0] w R by kernel_rfl) h)

/-- stave/fault.Kind -/
def A_fault_Kind : Ann := .nil
def S_fault_Kind (a0 : Value) (w : World) (R : Ending → World → Prop) : Prop :=
  xE Tryd.prog (sAlloc 25) w fun v3_1 w2 =>
  xP Tryd.prog (sIface 52 v3_1) fun v6_3 =>
  xE Tryd.prog (sCall 17 #[a0, v6_3]) w2 fun v7_4 w5 =>
  xIf v7_4 (
    xR Tryd.prog (sLoad 25 v3_1) w5 fun v8_6 =>
    R (.returned v8_6) w5) (
    xP Tryd.prog (sIface 25 (.int .i64 6)) fun v11_7 =>
    xE Tryd.prog (sCall 15 #[a0, v11_7]) w5 fun v12_8 w9 =>
    xIf v12_8 (
      R (.returned (.int .i64 6)) w9) (
      R (.returned (.int .i64 0)) w9))
theorem C_fault_Kind {a0 : Value} {w : World} {R : Ending → World → Prop} (h : S_fault_Kind a0 w R) : Calls Tryd.prog 10 #[a0] w R :=
  funcVC_sound (an := A_fault_Kind) (args := [a0]) (k := 1) Tryd.func10 (by kernel_rfl) rfl
    (Eq.mp (show S_fault_Kind a0 w R = funcVC Tryd.prog Tryd.f10 A_fault_Kind [a0] w R by kernel_rfl) h)

/-- stave/stavebook.Same[string] -/
def A_stavebook_Same_string : Ann := (.seq .nil (.seq .nil (.seq (.seq .nil (.one (.loop [5] (.seq .nil (.seq (.one (.seq (.draw (.pre [0, 1, 2, 3, 4, 5, 6, 7, 8] .nil) [0, 0, 3, 7, 0, 0, 48, 112, 255]) .nil)) .nil))))) .nil)))
def S_stavebook_Same_string (a0 : Value) (a1 : Value) (w : World) (R : Ending → World → Prop) : Prop :=
  xP Tryd.prog (sB .len #[34] #[a0]) fun v7_1 =>
  xP Tryd.prog (sB .len #[34] #[a1]) fun v9_2 =>
  xR Tryd.prog (sEq .neq 3 false v7_1 v9_2) w fun v10_3 =>
  xIf v10_3 (
    R (.returned (.bool false)) w) (
    xLoop [(.int .i64 0)] w fun J4 vs5 _ w7 =>
    xP Tryd.prog (sB .len #[34] #[a0]) fun v13_8 =>
    xP Tryd.prog (sBin .lss 3 (vs5.getD 0 undef) v13_8) fun v14_9 =>
    xIf v14_9 (
      xP Tryd.prog (sIA 34 a0 (vs5.getD 0 undef)) fun v19_10 =>
    xR Tryd.prog (sLoad 9 v19_10) (w7.drew) fun v20_11 =>
    xP Tryd.prog (sIA 34 a1 (vs5.getD 0 undef)) fun v23_12 =>
    xR Tryd.prog (sLoad 9 v23_12) (w7.drew) fun v24_13 =>
    xR Tryd.prog (sEq .neq 9 false v20_11 v24_13) (w7.drew) fun v25_14 =>
    xIf v25_14 (
      R (.returned (.bool false)) (w7.drew)) (
      xP Tryd.prog (sBin .add 3 (vs5.getD 0 undef) (.int .i64 1)) fun v16_15 =>
    J4 [v16_15] (w7.drew))) (
      R (.returned (.bool true)) w7))
theorem C_stavebook_Same_string {a0 : Value} {a1 : Value} {w : World} {R : Ending → World → Prop} (h : S_stavebook_Same_string a0 a1 w R) : Calls Tryd.prog 11 #[a0, a1] w R :=
  funcVC_sound (an := A_stavebook_Same_string) (args := [a0, a1]) (k := 2) Tryd.func11 (by kernel_rfl) rfl
    (Eq.mp (show S_stavebook_Same_string a0 a1 w R = funcVC Tryd.prog Tryd.f11 A_stavebook_Same_string [a0, a1] w R by kernel_rfl) h)

/-- stave/fault.Path -/
def A_fault_Path : Ann := (.seq .nil (.seq .nil (.seq (.seq .nil (.one (.loop [3, 9] .nil))) .nil)))
def S_fault_Path (a0 : Value) (w : World) (R : Ending → World → Prop) : Prop :=
  xE Tryd.prog (sCall 16 #[a0]) w fun v7_1 w2 =>
  xP Tryd.prog (sB .len #[48] #[v7_1]) fun v8_3 =>
  xLoop [(.slice none 0 0), (.int .i64 0)] w2 fun J4 vs5 _ w7 =>
    xP Tryd.prog (sBin .lss 3 (vs5.getD 1 undef) v8_3) fun v10_8 =>
    xIf v10_8 (
      xP Tryd.prog (sIA 48 v7_1 (vs5.getD 1 undef)) fun v11_9 =>
    xR Tryd.prog (sLoad 47 v11_9) w7 fun v12_10 =>
    xE Tryd.prog (sAlloc 47) w7 fun v5_11 w12 =>
    xE Tryd.prog (sStore 47 v5_11 v12_10) w12 fun _ w13 =>
    xP Tryd.prog (sFA 47 v5_11 0) fun v14_14 =>
    xR Tryd.prog (sLoad 9 v14_14) w13 fun v15_15 =>
    xE Tryd.prog (sBuildSlice 34 1 #[(0, v15_15)]) w13 fun v16_16 w17 =>
    xE Tryd.prog (sB .append #[34, 34] #[(vs5.getD 0 undef), v16_16]) w17 fun v17_18 w19 =>
    xP Tryd.prog (sBin .add 3 (vs5.getD 1 undef) (.int .i64 1)) fun v18_20 =>
    J4 [v17_18, v18_20] w19) (
      R (.returned (vs5.getD 0 undef)) w7)
theorem C_fault_Path {a0 : Value} {w : World} {R : Ending → World → Prop} (h : S_fault_Path a0 w R) : Calls Tryd.prog 12 #[a0] w R :=
  funcVC_sound (an := A_fault_Path) (args := [a0]) (k := 1) Tryd.func12 (by kernel_rfl) rfl
    (Eq.mp (show S_fault_Path a0 w R = funcVC Tryd.prog Tryd.f12 A_fault_Path [a0] w R by kernel_rfl) h)

/-- stave/fault.First -/
def A_fault_First : Ann := (.seq .nil (.seq (.seq .nil (.one (.loop [9] .nil))) .nil))
def S_fault_First (a0 : Value) (a1 : Value) (w : World) (R : Ending → World → Prop) : Prop :=
  xP Tryd.prog (sB .len #[53] #[a1]) fun v8_1 =>
  xLoop [(.int .i64 0)] w fun J2 vs3 _ w5 =>
    xP Tryd.prog (sBin .lss 3 (vs3.getD 0 undef) v8_1) fun v10_6 =>
    xIf v10_6 (
      xP Tryd.prog (sIA 53 a1 (vs3.getD 0 undef)) fun v12_7 =>
    xR Tryd.prog (sLoad 25 v12_7) w5 fun v13_8 =>
    xP Tryd.prog (sIface 25 v13_8) fun v16_9 =>
    xE Tryd.prog (sCall 15 #[a0, v16_9]) w5 fun v17_10 w11 =>
    xIf v17_10 (
      R (.returned (vs3.getD 0 undef)) w11) (
      xP Tryd.prog (sBin .add 3 (vs3.getD 0 undef) (.int .i64 1)) fun v19_12 =>
    J2 [v19_12] w11)) (
      R (.returned (.int .i64 (-1))) w5)
theorem C_fault_First {a0 : Value} {a1 : Value} {w : World} {R : Ending → World → Prop} (h : S_fault_First a0 a1 w R) : Calls Tryd.prog 13 #[a0, a1] w R :=
  funcVC_sound (an := A_fault_First) (args := [a0, a1]) (k := 2) Tryd.func13 (by kernel_rfl) rfl
    (Eq.mp (show S_fault_First a0 a1 w R = funcVC Tryd.prog Tryd.f13 A_fault_First [a0, a1] w R by kernel_rfl) h)

/-- stave/stavebook.Within -/
def A_stavebook_Within : Ann := (.seq .nil (.seq .nil (.join [0] .nil .nil)))
def S_stavebook_Within (a0 : Value) (a1 : Value) (a2 : Value) (w : World) (R : Ending → World → Prop) : Prop :=
  xP Tryd.prog (sBin .sub 3 a2 a1) fun v10_1 =>
  xP Tryd.prog (sBin .add 3 v10_1 (.int .i64 1)) fun v11_2 =>
  xP Tryd.prog (sBin .rem 3 a0 v11_2) fun v12_3 =>
  xJoin (fun J4 =>
    xP Tryd.prog (sBin .lss 3 v12_3 (.int .i64 0)) fun v14_5 =>
    xIf v14_5 (
      xP Tryd.prog (sBin .add 3 v12_3 a2) fun v17_6 =>
      xP Tryd.prog (sBin .sub 3 v17_6 a1) fun v19_7 =>
      xP Tryd.prog (sBin .add 3 v19_7 (.int .i64 1)) fun v20_8 =>
      J4 [v20_8] w) (
      J4 [v12_3] w)) fun vs9 _ w11 =>
  xP Tryd.prog (sBin .add 3 a1 (vs9.getD 0 undef)) fun v23_12 =>
  R (.returned v23_12) w11
theorem C_stavebook_Within {a0 : Value} {a1 : Value} {a2 : Value} {w : World} {R : Ending → World → Prop} (h : S_stavebook_Within a0 a1 a2 w R) : Calls Tryd.prog 14 #[a0, a1, a2] w R :=
  funcVC_sound (an := A_stavebook_Within) (args := [a0, a1, a2]) (k := 3) Tryd.func14 (by kernel_rfl) rfl
    (Eq.mp (show S_stavebook_Within a0 a1 a2 w R = funcVC Tryd.prog Tryd.f14 A_stavebook_Within [a0, a1, a2] w R by kernel_rfl) h)

/-- errors.Is -/
def A_errors_Is : Ann := (.seq .nil (.seq (.join [11] .nil .nil) .nil))
def S_errors_Is (a0 : Value) (a1 : Value) (w : World) (R : Ending → World → Prop) : Prop :=
  xJoin (fun J1 =>
    xR Tryd.prog (sEq .eql 23 true a0 (.nilIface)) w fun v7_2 =>
    xIf v7_2 (
    J1 [(.bool true)] w) (
    xR Tryd.prog (sEq .eql 23 true a1 (.nilIface)) w fun v10_3 =>
    J1 [v10_3] w)) fun vs4 _ w6 =>
  xIf (vs4.getD 0 undef) (
    xR Tryd.prog (sEq .eql 23 false a0 a1) w6 fun v14_7 =>
    R (.returned v14_7) w6) (
    xE Tryd.prog (sCall 18 #[a1]) w6 fun v16_8 w9 =>
  xE Tryd.prog (sInvoke "Comparable" #[v16_8]) w9 fun v17_10 w11 =>
  xE Tryd.prog (sCall 19 #[a0, a1, v17_10]) w11 fun v21_12 w13 =>
  R (.returned v21_12) w13)
theorem C_errors_Is {a0 : Value} {a1 : Value} {w : World} {R : Ending → World → Prop} (h : S_errors_Is a0 a1 w R) : Calls Tryd.prog 15 #[a0, a1] w R :=
  funcVC_sound (an := A_errors_Is) (args := [a0, a1]) (k := 2) Tryd.func15 (by kernel_rfl) rfl
    (Eq.mp (show S_errors_Is a0 a1 w R = funcVC Tryd.prog Tryd.f15 A_errors_Is [a0, a1] w R by kernel_rfl) h)

/-- stave/fault.faults -/
def A_fault_faults : Ann := (.seq .nil (.seq .nil (.seq .nil (.seq (.one (.loop [0, 3] .nil)) .nil))))
def S_fault_faults (a0 : Value) (w : World) (R : Ending → World → Prop) : Prop :=
  xE Tryd.prog (sAlloc 47) w fun v4_1 w2 =>
  xLoop [a0, (.slice none 0 0)] w2 fun J3 vs4 _ w6 =>
    xP Tryd.prog (sIface 58 v4_1) fun v6_7 =>
    xE Tryd.prog (sCall 17 #[(vs4.getD 0 undef), v6_7]) w6 fun v7_8 w9 =>
    xIf v7_8 (
      xR Tryd.prog (sLoad 47 v4_1) w9 fun v9_10 =>
    xE Tryd.prog (sBuildSlice 48 1 #[(0, v9_10)]) w9 fun v10_11 w12 =>
    xE Tryd.prog (sB .append #[48, 48] #[(vs4.getD 1 undef), v10_11]) w12 fun v11_13 w14 =>
    xP Tryd.prog (sFA 47 v4_1 2) fun v12_15 =>
    xR Tryd.prog (sLoad 23 v12_15) w14 fun v13_16 =>
    J3 [v13_16, v11_13] w14) (
      R (.returned (vs4.getD 1 undef)) w9)
theorem C_fault_faults {a0 : Value} {w : World} {R : Ending → World → Prop} (h : S_fault_faults a0 w R) : Calls Tryd.prog 16 #[a0] w R :=
  funcVC_sound (an := A_fault_faults) (args := [a0]) (k := 1) Tryd.func16 (by kernel_rfl) rfl
    (Eq.mp (show S_fault_faults a0 w R = funcVC Tryd.prog Tryd.f16 A_fault_faults [a0] w R by kernel_rfl) h)

/-- errors.As -/
def A_errors_As : Ann := (.seq .nil (.seq .nil (.join [] .nil (.seq .nil (.seq .nil (.join [] (.join [23] .nil .nil) (.seq .nil (.join [] (.join [35] .nil .nil) .nil))))))))
def S_errors_As (a0 : Value) (a1 : Value) (w : World) (R : Ending → World → Prop) : Prop :=
  xR Tryd.prog (sEq .eql 23 true a0 (.nilIface)) w fun v9_1 =>
  xIf v9_1 (
    R (.returned (.bool false)) w) (
    xJoin (fun J2 =>
    xR Tryd.prog (sEq .eql 20 true a1 (.nilIface)) w fun v11_3 =>
    xIf v11_3 (
      xP Tryd.prog (sIface 9 (.string (ByteArray.mk #[101, 114, 114, 111, 114, 115, 58, 32, 116, 97, 114, 103, 101, 116, 32, 99, 97, 110, 110, 111, 116, 32, 98, 101, 32, 110, 105, 108]))) fun v12_4 =>
      xE Tryd.prog (sPanic v12_4) w fun _ w5 =>
      J2 [] w5) (
      J2 [] w)) fun _ _ w8 =>
  xE Tryd.prog (sCall 20 #[a1]) w8 fun v14_9 w10 =>
  xE Tryd.prog (sAlloc 62) w10 fun v5_11 w12 =>
  xE Tryd.prog (sStore 62 v5_11 v14_9) w12 fun _ w13 =>
  xR Tryd.prog (sLoad 62 v5_11) w13 fun v15_14 =>
  xE Tryd.prog (sCall 21 #[v15_14]) w13 fun v16_15 w16 =>
  xJoin (fun J17 =>
    xJoin (fun J18 =>
      xE Tryd.prog (sInvoke "Kind" #[v16_15]) w16 fun v18_19 w20 =>
      xR Tryd.prog (sEq .neq 65 true v18_19 (.int .u8 22)) w20 fun v19_21 =>
      xIf v19_21 (
      J18 [(.bool true)] w20) (
      xR Tryd.prog (sLoad 62 v5_11) w20 fun v21_22 =>
      xE Tryd.prog (sCall 22 #[v21_22]) w20 fun v22_23 w24 =>
      J18 [v22_23] w24)) fun vs25 _ w27 =>
    xIf (vs25.getD 0 undef) (
      xP Tryd.prog (sIface 9 (.string (ByteArray.mk #[101, 114, 114, 111, 114, 115, 58, 32, 116, 97, 114, 103, 101, 116, 32, 109, 117, 115, 116, 32, 98, 101, 32, 97, 32, 110, 111, 110, 45, 110, 105, 108, 32, 112, 111, 105, 110, 116, 101, 114]))) fun v24_28 =>
      xE Tryd.prog (sPanic v24_28) w27 fun _ w29 =>
      J17 [] w29) (
      J17 [] w27)) fun _ _ w32 =>
  xE Tryd.prog (sInvoke "Elem" #[v16_15]) w32 fun v26_33 w34 =>
  xJoin (fun J35 =>
    xJoin (fun J36 =>
      xE Tryd.prog (sInvoke "Kind" #[v26_33]) w34 fun v28_37 w38 =>
      xR Tryd.prog (sEq .neq 65 true v28_37 (.int .u8 20)) w38 fun v29_39 =>
      xIf v29_39 (
      xR Tryd.prog (sLoad 55 (.pointer (some ⟨0, 0, none⟩))) w38 fun v32_40 =>
      xE Tryd.prog (sInvoke "Implements" #[v26_33, v32_40]) w38 fun v33_41 w42 =>
      xP Tryd.prog (sUn .not v33_41) fun v34_43 =>
      J36 [v34_43] w42) (
      J36 [(.bool false)] w38)) fun vs44 _ w46 =>
    xIf (vs44.getD 0 undef) (
      xP Tryd.prog (sIface 9 (.string (ByteArray.mk #[101, 114, 114, 111, 114, 115, 58, 32, 42, 116, 97, 114, 103, 101, 116, 32, 109, 117, 115, 116, 32, 98, 101, 32, 105, 110, 116, 101, 114, 102, 97, 99, 101, 32, 111, 114, 32, 105, 109, 112, 108, 101, 109, 101, 110, 116, 32, 101, 114, 114, 111, 114]))) fun v36_47 =>
      xE Tryd.prog (sPanic v36_47) w46 fun _ w48 =>
      J35 [] w48) (
      J35 [] w46)) fun _ _ w51 =>
  xR Tryd.prog (sLoad 62 v5_11) w51 fun v39_52 =>
  xE Tryd.prog (sCall 23 #[a0, a1, v39_52, v26_33]) w51 fun v41_53 w54 =>
  R (.returned v41_53) w54)
theorem C_errors_As {a0 : Value} {a1 : Value} {w : World} {R : Ending → World → Prop} (h : S_errors_As a0 a1 w R) : Calls Tryd.prog 17 #[a0, a1] w R :=
  funcVC_sound (an := A_errors_As) (args := [a0, a1]) (k := 2) Tryd.func17 (by kernel_rfl) rfl
    (Eq.mp (show S_errors_As a0 a1 w R = funcVC Tryd.prog Tryd.f17 A_errors_As [a0, a1] w R by kernel_rfl) h)

/-- errors.is -/
def A_errors_is : Ann := (.seq .nil (.one (.loop [0] (.one (.seq (.join [19] .nil .nil) (.seq (.seq .nil (.join [30] .nil .nil)) (.seq .nil (.one (.seq .nil (.seq .nil (.seq .nil (.seq (.seq .nil (.seq (.seq .nil (.one (.loop [45] .nil))) .nil)) .nil))))))))))))
def S_errors_is (a0 : Value) (a1 : Value) (a2 : Value) (w : World) (R : Ending → World → Prop) : Prop :=
  xLoop [a0] w fun J1 vs2 _ w4 =>
    xJoin (fun J5 =>
      xIf a2 (
      xR Tryd.prog (sEq .eql 23 false (vs2.getD 0 undef) a1) w4 fun v18_6 =>
      J5 [v18_6] w4) (
      J5 [(.bool false)] w4)) fun vs7 _ w9 =>
    xIf (vs7.getD 0 undef) (
      R (.returned (.bool true)) w9) (
      xP Tryd.prog (sAssert (vs2.getD 0 undef) 23 72 true) fun v22_10 =>
    xP Tryd.prog (sExtract v22_10 0) fun v23_11 =>
    xP Tryd.prog (sExtract v22_10 1) fun v24_12 =>
    xJoin (fun J13 =>
      xIf v24_12 (
      xE Tryd.prog (sInvoke "Is" #[v23_11, a1]) w9 fun v29_14 w15 =>
      J13 [v29_14] w15) (
      J13 [(.bool false)] w9)) fun vs16 _ w18 =>
    xIf (vs16.getD 0 undef) (
      R (.returned (.bool true)) w18) (
      xP Tryd.prog (sAssert (vs2.getD 0 undef) 23 75 true) fun v32_19 =>
    xP Tryd.prog (sExtract v32_19 1) fun v33_20 =>
    xP Tryd.prog (sExtract v32_19 0) fun v34_21 =>
    xIf v33_20 (
      xE Tryd.prog (sInvoke "Unwrap" #[v34_21]) w18 fun v36_22 w23 =>
      xR Tryd.prog (sEq .eql 23 true v36_22 (.nilIface)) w23 fun v38_24 =>
      xIf v38_24 (
        R (.returned (.bool false)) w23) (
        J1 [v36_22] w23)) (
      xP Tryd.prog (sAssert (vs2.getD 0 undef) 23 77 true) fun v39_25 =>
      xP Tryd.prog (sExtract v39_25 1) fun v40_26 =>
      xP Tryd.prog (sExtract v39_25 0) fun v41_27 =>
      xIf v40_26 (
        xE Tryd.prog (sInvoke "Unwrap" #[v41_27]) w18 fun v43_28 w29 =>
        xP Tryd.prog (sB .len #[78] #[v43_28]) fun v44_30 =>
        xLoop [(.int .i64 0)] w29 fun J31 vs32 _ w34 =>
          xP Tryd.prog (sBin .lss 3 (vs32.getD 0 undef) v44_30) fun v46_35 =>
          xIf v46_35 (
            xP Tryd.prog (sIA 78 v43_28 (vs32.getD 0 undef)) fun v47_36 =>
          xR Tryd.prog (sLoad 23 v47_36) w34 fun v48_37 =>
          xE Tryd.prog (sCall 19 #[v48_37, a1, a2]) w34 fun v52_38 w39 =>
          xIf v52_38 (
            R (.returned (.bool true)) w39) (
            xP Tryd.prog (sBin .add 3 (vs32.getD 0 undef) (.int .i64 1)) fun v53_40 =>
          J31 [v53_40] w39)) (
            R (.returned (.bool false)) w34)) (
        R (.returned (.bool false)) w18))))
theorem C_errors_is {a0 : Value} {a1 : Value} {a2 : Value} {w : World} {R : Ending → World → Prop} (h : S_errors_is a0 a1 a2 w R) : Calls Tryd.prog 19 #[a0, a1, a2] w R :=
  funcVC_sound (an := A_errors_is) (args := [a0, a1, a2]) (k := 3) Tryd.func19 (by kernel_rfl) rfl
    (Eq.mp (show S_errors_is a0 a1 a2 w R = funcVC Tryd.prog Tryd.f19 A_errors_is [a0, a1, a2] w R by kernel_rfl) h)

/-- errors.as -/
def A_errors_as : Ann := (.seq .nil (.one (.loop [0] (.one (.seq .nil (.seq (.seq .nil (.join [35] .nil .nil)) (.seq .nil (.one (.seq .nil (.seq .nil (.seq .nil (.seq (.seq .nil (.seq (.seq .nil (.one (.loop [50] (.seq .nil (.seq .nil (.join [] .nil .nil)))))) .nil)) .nil))))))))))))
def S_errors_as (a0 : Value) (a1 : Value) (a2 : Value) (a3 : Value) (w : World) (R : Ending → World → Prop) : Prop :=
  xE Tryd.prog (sBox 62 a2) w fun v6_1 w2 =>
  xLoop [a0] w2 fun J3 vs4 _ w6 =>
    xE Tryd.prog (sCall 18 #[(vs4.getD 0 undef)]) w6 fun v17_7 w8 =>
    xE Tryd.prog (sInvoke "AssignableTo" #[v17_7, a3]) w8 fun v19_9 w10 =>
    xIf v19_9 (
      xR Tryd.prog (sLoad 62 v6_1) w10 fun v20_11 =>
      xE Tryd.prog (sCall 24 #[v20_11]) w10 fun v21_12 w13 =>
      xE Tryd.prog (sCall 20 #[(vs4.getD 0 undef)]) w13 fun v23_14 w15 =>
      xE Tryd.prog (sCall 25 #[v21_12, v23_14]) w15 fun _ w17 =>
      R (.returned (.bool true)) w17) (
      xP Tryd.prog (sAssert (vs4.getD 0 undef) 23 82 true) fun v27_18 =>
    xP Tryd.prog (sExtract v27_18 0) fun v28_19 =>
    xP Tryd.prog (sExtract v27_18 1) fun v29_20 =>
    xJoin (fun J21 =>
      xIf v29_20 (
      xE Tryd.prog (sInvoke "As" #[v28_19, a1]) w10 fun v34_22 w23 =>
      J21 [v34_22] w23) (
      J21 [(.bool false)] w10)) fun vs24 _ w26 =>
    xIf (vs24.getD 0 undef) (
      R (.returned (.bool true)) w26) (
      xP Tryd.prog (sAssert (vs4.getD 0 undef) 23 75 true) fun v37_27 =>
    xP Tryd.prog (sExtract v37_27 1) fun v38_28 =>
    xP Tryd.prog (sExtract v37_27 0) fun v39_29 =>
    xIf v38_28 (
      xE Tryd.prog (sInvoke "Unwrap" #[v39_29]) w26 fun v41_30 w31 =>
      xR Tryd.prog (sEq .eql 23 true v41_30 (.nilIface)) w31 fun v43_32 =>
      xIf v43_32 (
        R (.returned (.bool false)) w31) (
        J3 [v41_30] w31)) (
      xP Tryd.prog (sAssert (vs4.getD 0 undef) 23 77 true) fun v44_33 =>
      xP Tryd.prog (sExtract v44_33 1) fun v45_34 =>
      xP Tryd.prog (sExtract v44_33 0) fun v46_35 =>
      xIf v45_34 (
        xE Tryd.prog (sInvoke "Unwrap" #[v46_35]) w26 fun v48_36 w37 =>
        xP Tryd.prog (sB .len #[78] #[v48_36]) fun v49_38 =>
        xLoop [(.int .i64 0)] w37 fun J39 vs40 _ w42 =>
          xP Tryd.prog (sBin .lss 3 (vs40.getD 0 undef) v49_38) fun v51_43 =>
          xIf v51_43 (
            xJoin (fun J44 =>
            xP Tryd.prog (sIA 78 v48_36 (vs40.getD 0 undef)) fun v52_45 =>
            xR Tryd.prog (sLoad 23 v52_45) w42 fun v53_46 =>
            xR Tryd.prog (sEq .eql 23 true v53_46 (.nilIface)) w42 fun v55_47 =>
            xIf v55_47 (
              J44 [] w42) (
              xR Tryd.prog (sLoad 62 v6_1) w42 fun v58_48 =>
            xE Tryd.prog (sCall 23 #[v53_46, a1, v58_48, a3]) w42 fun v60_49 w50 =>
            xIf v60_49 (
              R (.returned (.bool true)) w50) (
              J44 [] w50))) fun _ _ w53 =>
          xP Tryd.prog (sBin .add 3 (vs40.getD 0 undef) (.int .i64 1)) fun v61_54 =>
          J39 [v61_54] w53) (
            R (.returned (.bool false)) w42)) (
        R (.returned (.bool false)) w26))))
theorem C_errors_as {a0 : Value} {a1 : Value} {a2 : Value} {a3 : Value} {w : World} {R : Ending → World → Prop} (h : S_errors_as a0 a1 a2 a3 w R) : Calls Tryd.prog 23 #[a0, a1, a2, a3] w R :=
  funcVC_sound (an := A_errors_as) (args := [a0, a1, a2, a3]) (k := 4) Tryd.func23 (by kernel_rfl) rfl
    (Eq.mp (show S_errors_as a0 a1 a2 a3 w R = funcVC Tryd.prog Tryd.f23 A_errors_as [a0, a1, a2, a3] w R by kernel_rfl) h)

/-- (stave/api.Loss).Is -/
def A_api_Loss_Is : Ann := .nil
def S_api_Loss_Is (a0 : Value) (a1 : Value) (w : World) (R : Ending → World → Prop) : Prop :=
  xE Tryd.prog (sBox 29 a0) w fun _ w2 =>
  xP Tryd.prog (sIface 25 (.int .i64 6)) fun v6_3 =>
  xR Tryd.prog (sEq .eql 23 false a1 v6_3) w2 fun v7_4 =>
  R (.returned v7_4) w2
theorem C_api_Loss_Is {a0 : Value} {a1 : Value} {w : World} {R : Ending → World → Prop} (h : S_api_Loss_Is a0 a1 w R) : Calls Tryd.prog 45 #[a0, a1] w R :=
  funcVC_sound (an := A_api_Loss_Is) (args := [a0, a1]) (k := 2) Tryd.func45 (by kernel_rfl) rfl
    (Eq.mp (show S_api_Loss_Is a0 a1 w R = funcVC Tryd.prog Tryd.f45 A_api_Loss_Is [a0, a1] w R by kernel_rfl) h)

/-- (stave/api.Fault).Unwrap -/
def A_api_Fault_Unwrap : Ann := .nil
def S_api_Fault_Unwrap (a0 : Value) (w : World) (R : Ending → World → Prop) : Prop :=
  xE Tryd.prog (sBox 47 a0) w fun v1_1 w2 =>
  xP Tryd.prog (sFA 47 v1_1 2) fun v3_3 =>
  xR Tryd.prog (sLoad 23 v3_3) w2 fun v4_4 =>
  R (.returned v4_4) w2
theorem C_api_Fault_Unwrap {a0 : Value} {w : World} {R : Ending → World → Prop} (h : S_api_Fault_Unwrap a0 w R) : Calls Tryd.prog 47 #[a0] w R :=
  funcVC_sound (an := A_api_Fault_Unwrap) (args := [a0]) (k := 1) Tryd.func47 (by kernel_rfl) rfl
    (Eq.mp (show S_api_Fault_Unwrap a0 w R = funcVC Tryd.prog Tryd.f47 A_api_Fault_Unwrap [a0] w R by kernel_rfl) h)

/-- gosem.cut.vars -/
def A_gosem_cut_vars : Ann := .nil
def S_gosem_cut_vars (w : World) (R : Ending → World → Prop) : Prop :=
  xP Tryd.prog (sIface 114 (.pointer none)) fun v0_1 =>
  xE Tryd.prog (sCall 18 #[v0_1]) w fun v1_2 w3 =>
  xE Tryd.prog (sInvoke "Elem" #[v1_2]) w3 fun v2_4 w5 =>
  xE Tryd.prog (sStore 55 (.pointer (some ⟨0, 0, none⟩)) v2_4) w5 fun _ w6 =>
  R (.returned (.tuple #[])) w6
theorem C_gosem_cut_vars {w : World} {R : Ending → World → Prop} (h : S_gosem_cut_vars  w R) : Calls Tryd.prog 66 #[] w R :=
  funcVC_sound (an := A_gosem_cut_vars) (args := []) (k := 0) Tryd.func66 (by kernel_rfl) rfl
    (Eq.mp (show S_gosem_cut_vars  w R = funcVC Tryd.prog Tryd.f66 A_gosem_cut_vars [] w R by kernel_rfl) h)

end Go.Proofs.YtpgfmpjepoedjaaDoor
