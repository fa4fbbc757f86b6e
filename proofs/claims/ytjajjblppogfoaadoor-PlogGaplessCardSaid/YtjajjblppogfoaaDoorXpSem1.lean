import Derived.Test.YtjajjblppogfoaaDoorXB
import Derived.Test.YtjajjblppogfoaaDoorRows
namespace Go.Proofs.YtjajjblppogfoaaDoor
set_option linter.unusedSimpArgs false
set_option linter.unusedVariables false
open Go.X
set_option maxRecDepth 100000

/-- stave/stavelaw1.FaultRuns -/
def A_stavelaw1_FaultRuns : Ann := .nil
def S_stavelaw1_FaultRuns (w : World) (R : Ending → World → Prop) : Prop :=
  xP Tryd.prog (sIface 25 (.int .i64 8)) fun v8_1 =>
  xE Tryd.prog (sCall 14 #[(.string (ByteArray.mk #[97])), (.int .i64 1), v8_1]) w fun v9_2 w3 =>
  xE Tryd.prog (sCall 14 #[(.string (ByteArray.mk #[98])), (.int .i64 2), v9_2]) w3 fun v10_4 w5 =>
  xE Tryd.prog (sCall 15 #[v10_4]) w5 fun v13_6 w7 =>
  xP Tryd.prog (sExtract v13_6 0) fun v14_8 =>
  xP Tryd.prog (sExtract v13_6 1) fun v15_9 =>
  xP Tryd.prog (sExtract v13_6 2) fun v16_10 =>
  xP Tryd.prog (sBuild 29 #[(0, (.int .i64 7)), (1, (.int .i64 1)), (2, (.int .i64 2))]) fun v17_11 =>
  xP Tryd.prog (sIface 29 v17_11) fun v18_12 =>
  xE Tryd.prog (sCall 14 #[(.string (ByteArray.mk #[99])), (.int .i64 3), v18_12]) w7 fun v19_13 w14 =>
  xE Tryd.prog (sCall 16 #[v19_13]) w14 fun v22_15 w16 =>
  xP Tryd.prog (sExtract v22_15 0) fun v23_17 =>
  xP Tryd.prog (sExtract v22_15 1) fun v24_18 =>
  xE Tryd.prog (sAlloc 29) w16 fun v6_19 w20 =>
  xE Tryd.prog (sStore 29 v6_19 v23_17) w20 fun _ w21 =>
  xE Tryd.prog (sCall 17 #[v10_4]) w21 fun v26_22 w23 =>
  xR Tryd.prog (sEq .eql 25 true v26_22 (.int .i64 8)) w23 fun v27_24 =>
  xIf v27_24 (
  xR Tryd.prog (sEq .eql 9 true v14_8 (.string (ByteArray.mk #[97]))) w23 fun v30_25 =>
  xIf v30_25 (
  xR Tryd.prog (sEq .eql 3 true v15_9 (.int .i64 1)) w23 fun v34_26 =>
  xIf v34_26 (
  xIf v16_10 (
  xE Tryd.prog (sCall 19 #[v10_4]) w23 fun v41_27 w28 =>
  xE Tryd.prog (sBuildSlice 34 2 #[(0, (.string (ByteArray.mk #[98]))), (1, (.string (ByteArray.mk #[97])))]) w28 fun v42_29 w30 =>
  xE Tryd.prog (sCall 18 #[v41_27, v42_29]) w30 fun v43_31 w32 =>
  xIf v43_31 (
  xE Tryd.prog (sBuildSlice 88 2 #[(0, (.int .i64 10)), (1, (.int .i64 8))]) w32 fun v47_33 w34 =>
  xE Tryd.prog (sCall 20 #[v10_4, v47_33]) w34 fun v48_35 w36 =>
  xR Tryd.prog (sEq .eql 3 true v48_35 (.int .i64 1)) w36 fun v49_37 =>
  xIf v49_37 (
  xE Tryd.prog (sCall 17 #[v19_13]) w36 fun v53_38 w39 =>
  xR Tryd.prog (sEq .eql 25 true v53_38 (.int .i64 6)) w39 fun v54_40 =>
  xIf v54_40 (
  xIf v24_18 (
  xR Tryd.prog (sLoad 29 v6_19) w39 fun v60_41 =>
  xP Tryd.prog (sBuild 29 #[(0, (.int .i64 7)), (1, (.int .i64 1)), (2, (.int .i64 2))]) fun v61_42 =>
  xR Tryd.prog (sEq .eql 29 false v60_41 v61_42) w39 fun v62_43 =>
  xIf v62_43 (
  xE Tryd.prog (sBuildSlice 88 1 #[(0, (.int .i64 6))]) w39 fun v66_44 w45 =>
  xE Tryd.prog (sCall 20 #[v19_13, v66_44]) w45 fun v67_46 w47 =>
  xR Tryd.prog (sEq .eql 3 true v67_46 (.int .i64 0)) w47 fun v68_48 =>
  R (.returned v68_48) w47) (
  R (.returned (.bool false)) w39)) (
  R (.returned (.bool false)) w39)) (
  R (.returned (.bool false)) w39)) (
  R (.returned (.bool false)) w36)) (
  R (.returned (.bool false)) w32)) (
  R (.returned (.bool false)) w23)) (
  R (.returned (.bool false)) w23)) (
  R (.returned (.bool false)) w23)) (
  R (.returned (.bool false)) w23)
theorem C_stavelaw1_FaultRuns {w : World} {R : Ending → World → Prop} (h : S_stavelaw1_FaultRuns  w R) : Calls Tryd.prog 3 #[] w R :=
  funcVC_sound (an := A_stavelaw1_FaultRuns) (args := []) (k := 0) Tryd.func3 (by kernel_rfl) rfl
    (Eq.mp (show S_stavelaw1_FaultRuns  w R = funcVC Tryd.prog Tryd.f3 A_stavelaw1_FaultRuns [] w R by kernel_rfl) h)

/-- stave/stavelaw1.FaultNone -/
def A_stavelaw1_FaultNone : Ann := (.seq .nil (.seq .nil (.seq (.seq .nil (.one (.loop [5, 6] (.seq (.join [19] .nil .nil) (.seq (.one (.seq (.draw (.pre [0, 1, 2, 3, 4, 5, 6, 7, 8, 9, 10, 11, 12] .nil) [0, 0, 3, 7, 15, 0, 0, 96, 224, 480, 0, 2047, 4095]) .nil)) .nil))))) .nil)))
def S_stavelaw1_FaultNone (a0 : Value) (a1 : Value) (w : World) (R : Ending → World → Prop) : Prop :=
  xLoop [(.nilIface), (.int .i64 0)] w fun J1 vs2 _ w4 =>
    xJoin (fun J5 =>
      xP Tryd.prog (sB .len #[38] #[a0]) fun v14_6 =>
      xP Tryd.prog (sBin .lss 3 (vs2.getD 1 undef) v14_6) fun v15_7 =>
      xIf v15_7 (
      xP Tryd.prog (sBin .lss 3 (vs2.getD 1 undef) (.int .i64 9)) fun v18_8 =>
      J5 [v18_8] w4) (
      J5 [(.bool false)] w4)) fun vs9 _ w11 =>
    xIf (vs9.getD 0 undef) (
      xP Tryd.prog (sIA 38 a0 (vs2.getD 1 undef)) fun v24_12 =>
    xP Tryd.prog (sFA 40 v24_12 0) fun v25_13 =>
    xR Tryd.prog (sLoad 9 v25_13) (w11.drew) fun v26_14 =>
    xP Tryd.prog (sIA 38 a0 (vs2.getD 1 undef)) fun v29_15 =>
    xP Tryd.prog (sFA 40 v29_15 1) fun v30_16 =>
    xR Tryd.prog (sLoad 3 v30_16) (w11.drew) fun v31_17 =>
    xE Tryd.prog (sCall 14 #[v26_14, v31_17, (vs2.getD 0 undef)]) (w11.drew) fun v33_18 w19 =>
    xR Tryd.prog (sEq .neq 23 true v33_18 (.nilIface)) w19 fun v35_20 =>
    xIf v35_20 (
      R (.returned (.bool false)) w19) (
      xP Tryd.prog (sBin .add 3 (vs2.getD 1 undef) (.int .i64 1)) fun v21_21 =>
    J1 [v33_18, v21_21] w19)) (
      xE Tryd.prog (sCall 15 #[(vs2.getD 0 undef)]) w11 fun v38_22 w23 =>
  xP Tryd.prog (sExtract v38_22 0) fun _ =>
  xP Tryd.prog (sExtract v38_22 1) fun _ =>
  xP Tryd.prog (sExtract v38_22 2) fun v41_26 =>
  xE Tryd.prog (sCall 16 #[(vs2.getD 0 undef)]) w23 fun v44_27 w28 =>
  xP Tryd.prog (sExtract v44_27 0) fun v45_29 =>
  xP Tryd.prog (sExtract v44_27 1) fun v46_30 =>
  xE Tryd.prog (sAlloc 29) w28 fun v10_31 w32 =>
  xE Tryd.prog (sStore 29 v10_31 v45_29) w32 fun _ w33 =>
  xE Tryd.prog (sCall 17 #[(vs2.getD 0 undef)]) w33 fun v48_34 w35 =>
  xR Tryd.prog (sEq .eql 25 true v48_34 (.int .i64 0)) w35 fun v49_36 =>
  xIf v49_36 (
  xP Tryd.prog (sUn .not v41_26) fun v52_37 =>
  xIf v52_37 (
  xP Tryd.prog (sUn .not v46_30) fun v56_38 =>
  xIf v56_38 (
  xE Tryd.prog (sCall 19 #[(vs2.getD 0 undef)]) w35 fun v60_39 w40 =>
  xP Tryd.prog (sB .len #[34] #[v60_39]) fun v61_41 =>
  xR Tryd.prog (sEq .eql 3 true v61_41 (.int .i64 0)) w40 fun v62_42 =>
  xIf v62_42 (
  xE Tryd.prog (sCall 21 #[a1, (.int .i64 1), (.int .i64 14)]) w40 fun v67_43 w44 =>
  xE Tryd.prog (sBuildSlice 88 1 #[(0, v67_43)]) w44 fun v68_45 w46 =>
  xE Tryd.prog (sCall 20 #[(vs2.getD 0 undef), v68_45]) w46 fun v69_47 w48 =>
  xR Tryd.prog (sEq .eql 3 true v69_47 (.int .i64 (-1))) w48 fun v70_49 =>
  xIf v70_49 (
  xP Tryd.prog (sIface 25 (.int .i64 1)) fun v73_50 =>
  xE Tryd.prog (sCall 20 #[v73_50, (.slice none 0 0)]) w48 fun v74_51 w52 =>
  xR Tryd.prog (sEq .eql 3 true v74_51 (.int .i64 (-1))) w52 fun v75_53 =>
  xIf v75_53 (
  xE Tryd.prog (sCall 3 #[]) w52 fun v78_54 w55 =>
  R (.returned v78_54) w55) (
  R (.returned (.bool false)) w52)) (
  R (.returned (.bool false)) w48)) (
  R (.returned (.bool false)) w40)) (
  R (.returned (.bool false)) w35)) (
  R (.returned (.bool false)) w35)) (
  R (.returned (.bool false)) w35))
theorem C_stavelaw1_FaultNone {a0 : Value} {a1 : Value} {w : World} {R : Ending → World → Prop} (h : S_stavelaw1_FaultNone a0 a1 w R) : Calls Tryd.prog 4 #[a0, a1] w R :=
  funcVC_sound (an := A_stavelaw1_FaultNone) (args := [a0, a1]) (k := 2) Tryd.func4 (by kernel_rfl) rfl
    (Eq.mp (show S_stavelaw1_FaultNone a0 a1 w R = funcVC Tryd.prog Tryd.f4 A_stavelaw1_FaultNone [a0, a1] w R by kernel_rfl) h)

/-- stave/stavelaw1.FaultInner -/
def A_stavelaw1_FaultInner : Ann := (.seq .nil (.seq .nil (.seq .nil (.seq (.seq .nil (.one (.loop [10, 11] (.seq (.join [31] .nil .nil) (.seq (.one (.seq .nil (.seq (.draw (.pre [0, 1, 2, 3, 4, 5, 6, 7, 8, 9, 10, 11, 12] .nil) [0, 0, 3, 7, 15, 0, 0, 96, 224, 480, 0, 2047, 4095]) (.seq .nil (.seq (.join [73] (.draw (.pre [0, 1, 2, 3, 4, 5, 6, 7, 8, 9, 10, 11, 12, 13, 14, 15, 16, 17, 18, 19, 20, 21, 22, 23] .nil) [0, 1, 0, 4, 12, 31, 63, 127, 255, 511, 127, 127, 3199, 7295, 15487, 32767, 65535, 131071, 262143, 524287, 262143, 2097151, 4194303, 8388607]) .nil) (.seq .nil (.join [103] .nil .nil))))))) .nil))))) .nil))))
def S_stavelaw1_FaultInner (a0 : Value) (a1 : Value) (a2 : Value) (a3 : Value) (w : World) (R : Ending → World → Prop) : Prop :=
  xE Tryd.prog (sCall 21 #[a0, (.int .i64 1), (.int .i64 14)]) w fun v18_1 w2 =>
  xP Tryd.prog (sIface 25 v18_1) fun v22_3 =>
  xE Tryd.prog (sCall 14 #[a2, a3, v22_3]) w2 fun v23_4 w5 =>
  xLoop [v23_4, (.int .i64 0)] w5 fun J6 vs7 _ w9 =>
    xJoin (fun J10 =>
      xP Tryd.prog (sB .len #[38] #[a1]) fun v26_11 =>
      xP Tryd.prog (sBin .lss 3 (vs7.getD 1 undef) v26_11) fun v27_12 =>
      xIf v27_12 (
      xP Tryd.prog (sBin .lss 3 (vs7.getD 1 undef) (.int .i64 30)) fun v30_13 =>
      J10 [v30_13] w9) (
      J10 [(.bool false)] w9)) fun vs14 _ w16 =>
    xIf (vs14.getD 0 undef) (
      xE Tryd.prog (sCall 19 #[(vs7.getD 0 undef)]) w16 fun v35_17 w18 =>
    xP Tryd.prog (sIA 38 a1 (vs7.getD 1 undef)) fun v38_19 =>
    xP Tryd.prog (sFA 40 v38_19 0) fun v39_20 =>
    xR Tryd.prog (sLoad 9 v39_20) (w18.drew) fun v40_21 =>
    xP Tryd.prog (sIA 38 a1 (vs7.getD 1 undef)) fun v43_22 =>
    xP Tryd.prog (sFA 40 v43_22 1) fun v44_23 =>
    xR Tryd.prog (sLoad 3 v44_23) (w18.drew) fun v45_24 =>
    xE Tryd.prog (sCall 14 #[v40_21, v45_24, (vs7.getD 0 undef)]) (w18.drew) fun v47_25 w26 =>
    xE Tryd.prog (sCall 19 #[v47_25]) w26 fun v49_27 w28 =>
    xJoin (fun J29 =>
      xP Tryd.prog (sB .len #[34] #[v49_27]) fun v51_30 =>
      xP Tryd.prog (sB .len #[34] #[v35_17]) fun v53_31 =>
      xP Tryd.prog (sBin .add 3 v53_31 (.int .i64 1)) fun v54_32 =>
      xR Tryd.prog (sEq .neq 3 false v51_30 v54_32) (w28.drew) fun v55_33 =>
      xIf v55_33 (
      J29 [(.bool true)] (w28.drew)) (
      xP Tryd.prog (sIA 34 v49_27 (.int .i64 0)) fun v58_34 =>
      xR Tryd.prog (sLoad 9 v58_34) (w28.drew) fun v59_35 =>
      xP Tryd.prog (sIA 38 a1 (vs7.getD 1 undef)) fun v62_36 =>
      xP Tryd.prog (sFA 40 v62_36 0) fun v63_37 =>
      xR Tryd.prog (sLoad 9 v63_37) (w28.drew) fun v64_38 =>
      xR Tryd.prog (sEq .neq 9 false v59_35 v64_38) (w28.drew) fun v65_39 =>
      xIf v65_39 (
      J29 [(.bool true)] (w28.drew)) (
      xP Tryd.prog (sSlice 34 v49_27 (some (.int .i64 1)) none none) fun v69_40 =>
      xE Tryd.prog (sCall 18 #[v69_40, v35_17]) (w28.drew) fun v71_41 w42 =>
      xP Tryd.prog (sUn .not v71_41) fun v72_43 =>
      J29 [v72_43] w42))) fun vs44 _ w46 =>
    xIf (vs44.getD 0 undef) (
      R (.returned (.bool false)) w46) (
      xE Tryd.prog (sCall 15 #[v47_25]) w46 fun v76_47 w48 =>
    xP Tryd.prog (sExtract v76_47 0) fun v77_49 =>
    xP Tryd.prog (sExtract v76_47 1) fun v78_50 =>
    xP Tryd.prog (sExtract v76_47 2) fun v79_51 =>
    xJoin (fun J52 =>
      xP Tryd.prog (sUn .not v79_51) fun v81_53 =>
      xIf v81_53 (
      J52 [(.bool true)] w48) (
      xR Tryd.prog (sEq .neq 9 false v77_49 a2) w48 fun v85_54 =>
      xIf v85_54 (
      J52 [(.bool true)] w48) (
      xR Tryd.prog (sEq .neq 3 false v78_50 a3) w48 fun v90_55 =>
      xIf v90_55 (
      J52 [(.bool true)] w48) (
      xE Tryd.prog (sCall 17 #[v47_25]) w48 fun v94_56 w57 =>
      xR Tryd.prog (sEq .neq 25 false v94_56 v18_1) w57 fun v96_58 =>
      xIf v96_58 (
      J52 [(.bool true)] w57) (
      xP Tryd.prog (sBuild 29 #[]) fun v100_59 =>
      xP Tryd.prog (sIface 29 v100_59) fun v101_60 =>
      xE Tryd.prog (sCall 22 #[v47_25, v101_60]) w57 fun v102_61 w62 =>
      J52 [v102_61] w62))))) fun vs63 _ w65 =>
    xIf (vs63.getD 0 undef) (
      R (.returned (.bool false)) w65) (
      xP Tryd.prog (sBin .add 3 (vs7.getD 1 undef) (.int .i64 1)) fun v33_66 =>
    J6 [v47_25, v33_66] w65))) (
      xE Tryd.prog (sCall 3 #[]) w16 fun v104_67 w68 =>
  R (.returned v104_67) w68)
theorem C_stavelaw1_FaultInner {a0 : Value} {a1 : Value} {a2 : Value} {a3 : Value} {w : World} {R : Ending → World → Prop} (h : S_stavelaw1_FaultInner a0 a1 a2 a3 w R) : Calls Tryd.prog 5 #[a0, a1, a2, a3] w R :=
  funcVC_sound (an := A_stavelaw1_FaultInner) (args := [a0, a1, a2, a3]) (k := 4) Tryd.func5 (by kernel_rfl) rfl
    (Eq.mp (show S_stavelaw1_FaultInner a0 a1 a2 a3 w R = funcVC Tryd.prog Tryd.f5 A_stavelaw1_FaultInner [a0, a1, a2, a3] w R by kernel_rfl) h)

/-- stave/stavelaw1.FaultLoss -/
def A_stavelaw1_FaultLoss : Ann := (.seq .nil (.seq .nil (.seq (.seq .nil (.one (.loop [9, 10] (.seq (.join [23] .nil .nil) (.seq (.one (.draw (.pre [0, 1, 2, 3, 4, 5, 6, 7, 8, 9, 10, 11, 12] .nil) [0, 0, 3, 7, 15, 0, 0, 96, 224, 480, 0, 2047, 4095])) .nil))))) (.seq .nil (.seq .nil (.seq (.draw (.pre [0, 1, 2, 3, 4, 5, 6, 7, 8, 9, 10, 11, 12, 13, 14, 16, 17, 15, 18, 19, 20, 21, 22, 23, 25, 26, 27, 24, 28, 29, 30, 31, 32, 36, 37, 33, 34, 35, 38, 39, 40, 41, 42, 43] .nil) [0, 1, 3, 3, 15, 31, 63, 127, 127, 511, 1023, 2047, 4095, 4095, 12287, 32767, 4095, 69631, 262143, 524287, 1048575, 2097151, 2097151, 6291455, 16777215, 2097151, 2097151, 102760447, 268435455, 536870911, 1073741823, 2147483647, 2147483647, 6442450943, 17179869183, 34359738367, 2147483647, 70866960383, 274877906943, 549755813887, 1099511627775, 2199023255551, 4398046511103, 8796093022207]) .nil))))))
def S_stavelaw1_FaultLoss (a0 : Value) (a1 : Value) (a2 : Value) (a3 : Value) (w : World) (R : Ending → World → Prop) : Prop :=
  xE Tryd.prog (sBox 29 a0) w fun v4_1 w2 =>
  xE Tryd.prog (sBox 29 a1) w2 fun v5_3 w4 =>
  xR Tryd.prog (sLoad 29 v4_1) w4 fun v14_5 =>
  xP Tryd.prog (sIface 29 v14_5) fun v15_6 =>
  xLoop [v15_6, (.int .i64 0)] w4 fun J7 vs8 _ w10 =>
    xJoin (fun J11 =>
      xP Tryd.prog (sB .len #[38] #[a2]) fun v18_12 =>
      xP Tryd.prog (sBin .lss 3 (vs8.getD 1 undef) v18_12) fun v19_13 =>
      xIf v19_13 (
      xP Tryd.prog (sBin .lss 3 (vs8.getD 1 undef) (.int .i64 9)) fun v22_14 =>
      J11 [v22_14] w10) (
      J11 [(.bool false)] w10)) fun vs15 _ w17 =>
    xIf (vs15.getD 0 undef) (
      xP Tryd.prog (sIA 38 a2 (vs8.getD 1 undef)) fun v28_18 =>
    xP Tryd.prog (sFA 40 v28_18 0) fun v29_19 =>
    xR Tryd.prog (sLoad 9 v29_19) (w17.drew) fun v30_20 =>
    xP Tryd.prog (sIA 38 a2 (vs8.getD 1 undef)) fun v33_21 =>
    xP Tryd.prog (sFA 40 v33_21 1) fun v34_22 =>
    xR Tryd.prog (sLoad 3 v34_22) (w17.drew) fun v35_23 =>
    xE Tryd.prog (sCall 14 #[v30_20, v35_23, (vs8.getD 0 undef)]) (w17.drew) fun v37_24 w25 =>
    xP Tryd.prog (sBin .add 3 (vs8.getD 1 undef) (.int .i64 1)) fun v25_26 =>
    J7 [v37_24, v25_26] w25) (
      xE Tryd.prog (sCall 21 #[a3, (.int .i64 1), (.int .i64 14)]) w17 fun v39_27 w28 =>
  xE Tryd.prog (sCall 16 #[(vs8.getD 0 undef)]) w28 fun v42_29 w30 =>
  xP Tryd.prog (sExtract v42_29 0) fun v43_31 =>
  xP Tryd.prog (sExtract v42_29 1) fun v44_32 =>
  xE Tryd.prog (sAlloc 29) w30 fun v12_33 w34 =>
  xE Tryd.prog (sStore 29 v12_33 v43_31) w34 fun _ w35 =>
  xIf v44_32 (
  xR Tryd.prog (sLoad 29 v12_33) (w35.drew) fun v47_36 =>
  xR Tryd.prog (sLoad 29 v4_1) (w35.drew) fun v48_37 =>
  xR Tryd.prog (sEq .eql 29 false v47_36 v48_37) (w35.drew) fun v49_38 =>
  xIf v49_38 (
  xP Tryd.prog (sIface 25 (.int .i64 6)) fun v53_39 =>
  xE Tryd.prog (sCall 22 #[(vs8.getD 0 undef), v53_39]) (w35.drew) fun v54_40 w41 =>
  xIf v54_40 (
  xP Tryd.prog (sIface 25 v39_27) fun v59_42 =>
  xR Tryd.prog (sEq .eql 25 true v39_27 (.int .i64 6)) w41 fun v62_43 =>
  xE Tryd.prog (sCall 22 #[(vs8.getD 0 undef), v59_42]) w41 fun v60_44 w45 =>
  xStill Tryd.prog (sEq .eql 25 true v39_27 (.int .i64 6)) v62_43 w45 <|
  xR Tryd.prog (sEq .eql 4 false v60_44 v62_43) w45 fun v63_46 =>
  xIf v63_46 (
  xR Tryd.prog (sLoad 29 v5_3) w45 fun v67_47 =>
  xP Tryd.prog (sIface 29 v67_47) fun v68_48 =>
  xR Tryd.prog (sLoad 29 v4_1) w45 fun v70_49 =>
  xR Tryd.prog (sLoad 29 v5_3) w45 fun v71_50 =>
  xR Tryd.prog (sEq .eql 29 false v70_49 v71_50) w45 fun v72_51 =>
  xE Tryd.prog (sCall 22 #[(vs8.getD 0 undef), v68_48]) w45 fun v69_52 w53 =>
  xStill Tryd.prog (sEq .eql 29 false v70_49 v71_50) v72_51 w53 <|
  xStill Tryd.prog (sLoad 29 v5_3) v71_50 w53 <|
  xStill Tryd.prog (sLoad 29 v4_1) v70_49 w53 <|
  xR Tryd.prog (sEq .eql 4 false v69_52 v72_51) w53 fun v73_54 =>
  xIf v73_54 (
  xR Tryd.prog (sEq .neq 25 true v39_27 (.int .i64 6)) w53 fun v82_55 =>
  xE Tryd.prog (sBuildSlice 88 1 #[(0, v39_27)]) w53 fun v78_56 w57 =>
  xStill Tryd.prog (sEq .neq 25 true v39_27 (.int .i64 6)) v82_55 w57 <|
  xE Tryd.prog (sCall 20 #[(vs8.getD 0 undef), v78_56]) w57 fun v79_58 w59 =>
  xStill Tryd.prog (sEq .neq 25 true v39_27 (.int .i64 6)) v82_55 w59 <|
  xR Tryd.prog (sEq .eql 3 true v79_58 (.int .i64 (-1))) w59 fun v80_60 =>
  xR Tryd.prog (sEq .eql 4 false v80_60 v82_55) w59 fun v83_61 =>
  xIf v83_61 (
  xE Tryd.prog (sCall 3 #[]) w59 fun v86_62 w63 =>
  R (.returned v86_62) w63) (
  R (.returned (.bool false)) w59)) (
  R (.returned (.bool false)) w53)) (
  R (.returned (.bool false)) w45)) (
  R (.returned (.bool false)) w41)) (
  R (.returned (.bool false)) (w35.drew))) (
  R (.returned (.bool false)) (w35.drew)))
theorem C_stavelaw1_FaultLoss {a0 : Value} {a1 : Value} {a2 : Value} {a3 : Value} {w : World} {R : Ending → World → Prop} (h : S_stavelaw1_FaultLoss a0 a1 a2 a3 w R) : Calls Tryd.prog 6 #[a0, a1, a2, a3] w R :=
  funcVC_sound (an := A_stavelaw1_FaultLoss) (args := [a0, a1, a2, a3]) (k := 4) Tryd.func6 (by kernel_rfl) rfl
    (Eq.mp (show S_stavelaw1_FaultLoss a0 a1 a2 a3 w R = funcVC Tryd.prog Tryd.f6 A_stavelaw1_FaultLoss [a0, a1, a2, a3] w R by kernel_rfl) h)

/-- stave/stavelaw17.PlogRuns -/
def A_stavelaw17_PlogRuns : Ann := (.seq .nil (.seq .nil (.seq (.join [23] .nil .nil) .nil)))
def S_stavelaw17_PlogRuns (w : World) (R : Ending → World → Prop) : Prop :=
  xE Tryd.prog (sCall 23 #[(.int .i64 5)]) w fun v15_1 w2 =>
  xP Tryd.prog (sExtract v15_1 0) fun v16_3 =>
  xP Tryd.prog (sExtract v15_1 1) fun v17_4 =>
  xJoin (fun J5 =>
    xR Tryd.prog (sEq .eql 46 true v16_3 (.pointer none)) w2 fun v19_6 =>
    xIf v19_6 (
    J5 [(.bool true)] w2) (
    xR Tryd.prog (sEq .neq 23 true v17_4 (.nilIface)) w2 fun v22_7 =>
    J5 [v22_7] w2)) fun vs8 _ w10 =>
  xIf (vs8.getD 0 undef) (
    R (.returned (.bool false)) w10) (
    xE Tryd.prog (sCall 24 #[v16_3, (.int .i64 3), (.int .i64 1), (.int .i64 0), (.int .i64 0)]) w10 fun v26_11 w12 =>
  xP Tryd.prog (sExtract v26_11 0) fun v27_13 =>
  xP Tryd.prog (sExtract v26_11 1) fun _ =>
  xE Tryd.prog (sCall 24 #[v16_3, (.int .i64 2), (.int .i64 1), (.int .i64 0), (.int .i64 1)]) w12 fun v31_15 w16 =>
  xP Tryd.prog (sExtract v31_15 0) fun v32_17 =>
  xP Tryd.prog (sExtract v31_15 1) fun _ =>
  xE Tryd.prog (sCall 24 #[v16_3, (.int .i64 4), (.int .i64 1), (.int .i64 1), (.int .i64 0)]) w16 fun v36_19 w20 =>
  xP Tryd.prog (sExtract v36_19 0) fun v37_21 =>
  xP Tryd.prog (sExtract v36_19 1) fun _ =>
  xE Tryd.prog (sCall 25 #[v16_3, (.int .i64 9)]) w20 fun v41_23 w24 =>
  xP Tryd.prog (sExtract v41_23 0) fun v42_25 =>
  xP Tryd.prog (sExtract v41_23 1) fun v43_26 =>
  xE Tryd.prog (sCall 26 #[v16_3, (.int .i64 9)]) w24 fun v45_27 w28 =>
  xE Tryd.prog (sCall 25 #[v16_3, (.int .i64 8)]) w28 fun v48_29 w30 =>
  xP Tryd.prog (sExtract v48_29 0) fun _ =>
  xP Tryd.prog (sExtract v48_29 1) fun v50_32 =>
  xR Tryd.prog (sEq .eql 3 true v27_13 (.int .i64 5)) w30 fun v52_33 =>
  xIf v52_33 (
  xR Tryd.prog (sEq .eql 3 true v32_17 (.int .i64 8)) w30 fun v55_34 =>
  xIf v55_34 (
  xR Tryd.prog (sEq .eql 3 true v37_21 (.int .i64 10)) w30 fun v59_35 =>
  xIf v59_35 (
  xR Tryd.prog (sEq .eql 23 true v43_26 (.nilIface)) w30 fun v63_36 =>
  xIf v63_36 (
  xE Tryd.prog (sCall 28 #[v42_25]) w30 fun v67_37 w38 =>
  xE Tryd.prog (sBuildSlice 56 2 #[(0, (.int .i64 8)), (1, (.int .i64 10))]) w38 fun v68_39 w40 =>
  xE Tryd.prog (sCall 27 #[v67_37, v68_39]) w40 fun v69_41 w42 =>
  xIf v69_41 (
  xR Tryd.prog (sEq .eql 23 true v45_27 (.nilIface)) w42 fun v73_43 =>
  xIf v73_43 (
  xE Tryd.prog (sCall 29 #[v16_3]) w42 fun v77_44 w45 =>
  xR Tryd.prog (sEq .eql 3 true v77_44 (.int .i64 9)) w45 fun v78_46 =>
  xIf v78_46 (
  xE Tryd.prog (sCall 30 #[v16_3]) w45 fun v82_47 w48 =>
  xR Tryd.prog (sEq .eql 3 true v82_47 (.int .i64 2)) w48 fun v83_49 =>
  xIf v83_49 (
  xE Tryd.prog (sCall 17 #[v50_32]) w48 fun v87_50 w51 =>
  xR Tryd.prog (sEq .eql 25 true v87_50 (.int .i64 13)) w51 fun v88_52 =>
  R (.returned v88_52) w51) (
  R (.returned (.bool false)) w48)) (
  R (.returned (.bool false)) w45)) (
  R (.returned (.bool false)) w42)) (
  R (.returned (.bool false)) w42)) (
  R (.returned (.bool false)) w30)) (
  R (.returned (.bool false)) w30)) (
  R (.returned (.bool false)) w30)) (
  R (.returned (.bool false)) w30))
theorem C_stavelaw17_PlogRuns {w : World} {R : Ending → World → Prop} (h : S_stavelaw17_PlogRuns  w R) : Calls Tryd.prog 7 #[] w R :=
  funcVC_sound (an := A_stavelaw17_PlogRuns) (args := []) (k := 0) Tryd.func7 (by kernel_rfl) rfl
    (Eq.mp (show S_stavelaw17_PlogRuns  w R = funcVC Tryd.prog Tryd.f7 A_stavelaw17_PlogRuns [] w R by kernel_rfl) h)

/-- stave/stavelaw17.PlogEnd -/
def A_stavelaw17_PlogEnd : Ann := (.seq .nil (.seq .nil (.seq .nil (.seq (.join [26] .nil .nil) (.seq .nil (.seq (.seq .nil (.one (.loop [8, 9] (.seq (.join [35] .nil .nil) (.join [8] (.one (.seq .nil (.seq .nil (.seq (.seq .nil (.seq (.seq (.join [65] .nil .nil) .nil) .nil)) (.seq (.join [73] .nil .nil) .nil))))) .nil))))) .nil))))))
def S_stavelaw17_PlogEnd (a0 : Value) (a1 : Value) (w : World) (R : Ending → World → Prop) : Prop :=
  xE Tryd.prog (sCall 21 #[a0, (.int .i64 0), (.int .i64 30)]) w fun v14_1 w2 =>
  xP Tryd.prog (sBin .sub 3 (.int .i64 9223372036854775807) v14_1) fun v17_3 =>
  xE Tryd.prog (sCall 23 #[v17_3]) w2 fun v18_4 w5 =>
  xP Tryd.prog (sExtract v18_4 0) fun v19_6 =>
  xP Tryd.prog (sExtract v18_4 1) fun v20_7 =>
  xJoin (fun J8 =>
    xR Tryd.prog (sEq .eql 46 true v19_6 (.pointer none)) w5 fun v22_9 =>
    xIf v22_9 (
    J8 [(.bool true)] w5) (
    xR Tryd.prog (sEq .neq 23 true v20_7 (.nilIface)) w5 fun v25_10 =>
    J8 [v25_10] w5)) fun vs11 _ w13 =>
  xIf (vs11.getD 0 undef) (
    R (.returned (.bool false)) w13) (
    xLoop [v14_1, (.int .i64 0)] w13 fun J14 vs15 _ w17 =>
    xJoin (fun J18 =>
      xP Tryd.prog (sB .len #[56] #[a1]) fun v30_19 =>
      xP Tryd.prog (sBin .lss 3 (vs15.getD 1 undef) v30_19) fun v31_20 =>
      xIf v31_20 (
      xP Tryd.prog (sBin .lss 3 (vs15.getD 1 undef) (.int .i64 20)) fun v34_21 =>
      J18 [v34_21] w17) (
      J18 [(.bool false)] w17)) fun vs22 _ w24 =>
    xIf (vs22.getD 0 undef) (
      xJoin (fun J25 =>
      xP Tryd.prog (sIA 56 a1 (vs15.getD 1 undef)) fun v40_26 =>
      xR Tryd.prog (sLoad 3 v40_26) w24 fun v41_27 =>
      xE Tryd.prog (sCall 21 #[v41_27, (.int .i64 1), (.int .i64 8)]) w24 fun v42_28 w29 =>
      xE Tryd.prog (sCall 24 #[v19_6, v42_28, (.int .i64 0), (.int .i64 0), (.int .i64 0)]) w29 fun v46_30 w31 =>
      xP Tryd.prog (sExtract v46_30 0) fun v47_32 =>
      xP Tryd.prog (sExtract v46_30 1) fun v48_33 =>
      xP Tryd.prog (sBin .gtr 3 v42_28 (vs15.getD 0 undef)) fun v51_34 =>
      xIf v51_34 (
        xJoin (fun J35 =>
          xE Tryd.prog (sCall 17 #[v48_33]) w31 fun v53_36 w37 =>
          xR Tryd.prog (sEq .neq 25 true v53_36 (.int .i64 13)) w37 fun v54_38 =>
          xIf v54_38 (
          J35 [(.bool true)] w37) (
          xR Tryd.prog (sEq .neq 3 true v47_32 (.int .i64 0)) w37 fun v57_39 =>
          xIf v57_39 (
          J35 [(.bool true)] w37) (
          xE Tryd.prog (sCall 31 #[v19_6]) w37 fun v61_40 w41 =>
          xP Tryd.prog (sBin .sub 3 (.int .i64 9223372036854775807) (vs15.getD 0 undef)) fun v63_42 =>
          xR Tryd.prog (sEq .neq 3 false v61_40 v63_42) w41 fun v64_43 =>
          J35 [v64_43] w41))) fun vs44 _ w46 =>
        xIf (vs44.getD 0 undef) (
          R (.returned (.bool false)) w46) (
          J25 [(vs15.getD 0 undef)] w46)) (
        xJoin (fun J47 =>
        xR Tryd.prog (sEq .neq 23 true v48_33 (.nilIface)) w31 fun v67_48 =>
        xIf v67_48 (
        J47 [(.bool true)] w31) (
        xP Tryd.prog (sBin .sub 3 (.int .i64 9223372036854775807) (vs15.getD 0 undef)) fun v71_49 =>
        xR Tryd.prog (sEq .neq 3 false v47_32 v71_49) w31 fun v72_50 =>
        J47 [v72_50] w31)) fun vs51 _ w53 =>
      xIf (vs51.getD 0 undef) (
        R (.returned (.bool false)) w53) (
        xP Tryd.prog (sBin .sub 3 (vs15.getD 0 undef) v42_28) fun v76_54 =>
      J25 [v76_54] w53))) fun vs55 _ w57 =>
    xP Tryd.prog (sBin .add 3 (vs15.getD 1 undef) (.int .i64 1)) fun v37_58 =>
    J14 [(vs55.getD 0 undef), v37_58] w57) (
      xE Tryd.prog (sCall 31 #[v19_6]) w24 fun v78_59 w60 =>
  xP Tryd.prog (sBin .sub 3 (.int .i64 9223372036854775807) (vs15.getD 0 undef)) fun v80_61 =>
  xR Tryd.prog (sEq .eql 3 false v78_59 v80_61) w60 fun v81_62 =>
  xIf v81_62 (
  xE Tryd.prog (sCall 7 #[]) w60 fun v83_63 w64 =>
  R (.returned v83_63) w64) (
  R (.returned (.bool false)) w60)))
theorem C_stavelaw17_PlogEnd {a0 : Value} {a1 : Value} {w : World} {R : Ending → World → Prop} (h : S_stavelaw17_PlogEnd a0 a1 w R) : Calls Tryd.prog 8 #[a0, a1] w R :=
  funcVC_sound (an := A_stavelaw17_PlogEnd) (args := [a0, a1]) (k := 2) Tryd.func8 (by kernel_rfl) rfl
    (Eq.mp (show S_stavelaw17_PlogEnd a0 a1 w R = funcVC Tryd.prog Tryd.f8 A_stavelaw17_PlogEnd [a0, a1] w R by kernel_rfl) h)

/-- stave/stavelaw17.PlogRefuses -/
def A_stavelaw17_PlogRefuses : Ann := (.seq .nil (.seq .nil (.seq (.join [48] .nil .nil) (.seq (.seq .nil (.one (.loop [9] (.seq (.join [56] .nil .nil) .nil)))) (.seq .nil (.seq .nil (.seq .nil (.seq .nil (.seq .nil (.seq .nil (.seq .nil (.seq .nil (.seq .nil (.seq .nil (.seq .nil (.seq .nil (.seq (.seq .nil (.one (.loop [156] .nil))) (.seq (.seq .nil (.one (.loop [170] .nil))) .nil))))))))))))))))))
def S_stavelaw17_PlogRefuses (a0 : Value) (a1 : Value) (a2 : Value) (w : World) (R : Ending → World → Prop) : Prop :=
  xE Tryd.prog (sCall 23 #[(.int .i64 50)]) w fun v40_1 w2 =>
  xP Tryd.prog (sExtract v40_1 0) fun v41_3 =>
  xP Tryd.prog (sExtract v40_1 1) fun v42_4 =>
  xJoin (fun J5 =>
    xR Tryd.prog (sEq .eql 46 true v41_3 (.pointer none)) w2 fun v44_6 =>
    xIf v44_6 (
    J5 [(.bool true)] w2) (
    xR Tryd.prog (sEq .neq 23 true v42_4 (.nilIface)) w2 fun v47_7 =>
    J5 [v47_7] w2)) fun vs8 _ w10 =>
  xIf (vs8.getD 0 undef) (
    R (.returned (.bool false)) w10) (
    xLoop [(.int .i64 0)] w10 fun J11 vs12 _ w14 =>
    xJoin (fun J15 =>
      xP Tryd.prog (sB .len #[56] #[a0]) fun v51_16 =>
      xP Tryd.prog (sBin .lss 3 (vs12.getD 0 undef) v51_16) fun v52_17 =>
      xIf v52_17 (
      xP Tryd.prog (sBin .lss 3 (vs12.getD 0 undef) (.int .i64 9)) fun v55_18 =>
      J15 [v55_18] w14) (
      J15 [(.bool false)] w14)) fun vs19 _ w21 =>
    xIf (vs19.getD 0 undef) (
      xP Tryd.prog (sIA 56 a0 (vs12.getD 0 undef)) fun v62_22 =>
    xR Tryd.prog (sLoad 3 v62_22) w21 fun v63_23 =>
    xE Tryd.prog (sCall 21 #[v63_23, (.int .i64 1), (.int .i64 8)]) w21 fun v64_24 w25 =>
    xE Tryd.prog (sCall 24 #[v41_3, v64_24, (vs12.getD 0 undef), (vs12.getD 0 undef), (.int .i64 0)]) w25 fun _ w27 =>
    xP Tryd.prog (sBin .add 3 (vs12.getD 0 undef) (.int .i64 1)) fun v58_28 =>
    J11 [v58_28] w27) (
      xE Tryd.prog (sCall 29 #[v41_3]) w21 fun v69_29 w30 =>
  xE Tryd.prog (sCall 31 #[v41_3]) w30 fun v71_31 w32 =>
  xE Tryd.prog (sCall 30 #[v41_3]) w32 fun v73_33 w34 =>
  xE Tryd.prog (sCall 21 #[a1, (.int .i64 1), (.int .i64 9)]) w34 fun v75_35 w36 =>
  xE Tryd.prog (sCall 24 #[v41_3, (.int .i64 0), (.int .i64 1), (.int .i64 0), (.int .i64 0)]) w36 fun v78_37 w38 =>
  xP Tryd.prog (sExtract v78_37 0) fun _ =>
  xP Tryd.prog (sExtract v78_37 1) fun v80_40 =>
  xP Tryd.prog (sBin .add 3 (.int .i64 8) v75_35) fun v84_41 =>
  xE Tryd.prog (sCall 24 #[v41_3, v84_41, (.int .i64 1), (.int .i64 0), (.int .i64 0)]) w38 fun v85_42 w43 =>
  xP Tryd.prog (sExtract v85_42 0) fun _ =>
  xP Tryd.prog (sExtract v85_42 1) fun v87_45 =>
  xP Tryd.prog (sUn .neg v75_35) fun v91_46 =>
  xE Tryd.prog (sCall 24 #[v41_3, (.int .i64 1), v91_46, (.int .i64 0), (.int .i64 0)]) w43 fun v92_47 w48 =>
  xP Tryd.prog (sExtract v92_47 0) fun _ =>
  xP Tryd.prog (sExtract v92_47 1) fun v94_50 =>
  xP Tryd.prog (sBin .add 3 (.int .i64 1125899906842624) v75_35) fun v98_51 =>
  xE Tryd.prog (sCall 24 #[v41_3, (.int .i64 1), v98_51, (.int .i64 0), (.int .i64 0)]) w48 fun v99_52 w53 =>
  xP Tryd.prog (sExtract v99_52 0) fun _ =>
  xP Tryd.prog (sExtract v99_52 1) fun v101_55 =>
  xP Tryd.prog (sUn .neg v75_35) fun v105_56 =>
  xE Tryd.prog (sCall 24 #[v41_3, (.int .i64 1), (.int .i64 1), v105_56, (.int .i64 0)]) w53 fun v106_57 w58 =>
  xP Tryd.prog (sExtract v106_57 0) fun _ =>
  xP Tryd.prog (sExtract v106_57 1) fun v108_60 =>
  xP Tryd.prog (sUn .neg v75_35) fun v112_61 =>
  xE Tryd.prog (sCall 24 #[v41_3, (.int .i64 1), (.int .i64 1), (.int .i64 0), v112_61]) w58 fun v113_62 w63 =>
  xP Tryd.prog (sExtract v113_62 0) fun _ =>
  xP Tryd.prog (sExtract v113_62 1) fun v115_65 =>
  xP Tryd.prog (sBin .sub 3 v69_29 v75_35) fun v120_66 =>
  xE Tryd.prog (sCall 25 #[v41_3, v120_66]) w63 fun v121_67 w68 =>
  xP Tryd.prog (sExtract v121_67 0) fun _ =>
  xP Tryd.prog (sExtract v121_67 1) fun v123_70 =>
  xP Tryd.prog (sBin .add 3 v71_31 v75_35) fun v128_71 =>
  xE Tryd.prog (sCall 25 #[v41_3, v128_71]) w68 fun v129_72 w73 =>
  xP Tryd.prog (sExtract v129_72 0) fun _ =>
  xP Tryd.prog (sExtract v129_72 1) fun v131_75 =>
  xP Tryd.prog (sBin .add 3 v71_31 v75_35) fun v135_76 =>
  xE Tryd.prog (sCall 26 #[v41_3, v135_76]) w73 fun v136_77 w78 =>
  xP Tryd.prog (sUn .neg v75_35) fun v139_79 =>
  xE Tryd.prog (sCall 26 #[v41_3, v139_79]) w78 fun v140_80 w81 =>
  xP Tryd.prog (sUn .neg v75_35) fun v143_82 =>
  xE Tryd.prog (sCall 23 #[v143_82]) w81 fun v144_83 w84 =>
  xP Tryd.prog (sExtract v144_83 0) fun _ =>
  xP Tryd.prog (sExtract v144_83 1) fun v146_86 =>
  xE Tryd.prog (sBuildSlice 60 7 #[(0, v80_40), (1, v87_45), (2, v94_50), (3, v101_55), (4, v108_60), (5, v115_65), (6, v146_86)]) w84 fun v154_87 w88 =>
  xP Tryd.prog (sB .len #[60] #[v154_87]) fun v155_89 =>
  xLoop [(.int .i64 0)] w88 fun J90 vs91 _ w93 =>
    xP Tryd.prog (sBin .lss 3 (vs91.getD 0 undef) v155_89) fun v157_94 =>
    xIf v157_94 (
      xP Tryd.prog (sIA 60 v154_87 (vs91.getD 0 undef)) fun v158_95 =>
    xR Tryd.prog (sLoad 23 v158_95) w93 fun v159_96 =>
    xE Tryd.prog (sCall 17 #[v159_96]) w93 fun v161_97 w98 =>
    xR Tryd.prog (sEq .neq 25 true v161_97 (.int .i64 1)) w98 fun v162_99 =>
    xIf v162_99 (
      R (.returned (.bool false)) w98) (
      xP Tryd.prog (sBin .add 3 (vs91.getD 0 undef) (.int .i64 1)) fun v163_100 =>
    J90 [v163_100] w98)) (
      xE Tryd.prog (sBuildSlice 60 4 #[(0, v123_70), (1, v131_75), (2, v136_77), (3, v140_80)]) w93 fun v168_101 w102 =>
  xP Tryd.prog (sB .len #[60] #[v168_101]) fun v169_103 =>
  xLoop [(.int .i64 0)] w102 fun J104 vs105 _ w107 =>
    xP Tryd.prog (sBin .lss 3 (vs105.getD 0 undef) v169_103) fun v171_108 =>
    xIf v171_108 (
      xP Tryd.prog (sIA 60 v168_101 (vs105.getD 0 undef)) fun v172_109 =>
    xR Tryd.prog (sLoad 23 v172_109) w107 fun v173_110 =>
    xE Tryd.prog (sCall 17 #[v173_110]) w107 fun v175_111 w112 =>
    xR Tryd.prog (sEq .neq 25 true v175_111 (.int .i64 13)) w112 fun v176_113 =>
    xIf v176_113 (
      R (.returned (.bool false)) w112) (
      xP Tryd.prog (sBin .add 3 (vs105.getD 0 undef) (.int .i64 1)) fun v177_114 =>
    J104 [v177_114] w112)) (
      xE Tryd.prog (sCall 21 #[a2, (.int .i64 0), v69_29]) w107 fun v180_115 w116 =>
  xE Tryd.prog (sCall 26 #[v41_3, v180_115]) w116 fun v183_117 w118 =>
  xR Tryd.prog (sEq .eql 23 true v183_117 (.nilIface)) w118 fun v184_119 =>
  xIf v184_119 (
  xE Tryd.prog (sCall 29 #[v41_3]) w118 fun v187_120 w121 =>
  xR Tryd.prog (sEq .eql 3 false v187_120 v69_29) w121 fun v189_122 =>
  xIf v189_122 (
  xE Tryd.prog (sCall 31 #[v41_3]) w121 fun v193_123 w124 =>
  xR Tryd.prog (sEq .eql 3 false v193_123 v71_31) w124 fun v195_125 =>
  xIf v195_125 (
  xE Tryd.prog (sCall 30 #[v41_3]) w124 fun v199_126 w127 =>
  xR Tryd.prog (sEq .eql 3 false v199_126 v73_33) w127 fun v201_128 =>
  xIf v201_128 (
  xE Tryd.prog (sCall 7 #[]) w127 fun v204_129 w130 =>
  R (.returned v204_129) w130) (
  R (.returned (.bool false)) w127)) (
  R (.returned (.bool false)) w124)) (
  R (.returned (.bool false)) w121)) (
  R (.returned (.bool false)) w118)))))
theorem C_stavelaw17_PlogRefuses {a0 : Value} {a1 : Value} {a2 : Value} {w : World} {R : Ending → World → Prop} (h : S_stavelaw17_PlogRefuses a0 a1 a2 w R) : Calls Tryd.prog 9 #[a0, a1, a2] w R :=
  funcVC_sound (an := A_stavelaw17_PlogRefuses) (args := [a0, a1, a2]) (k := 3) Tryd.func9 (by kernel_rfl) rfl
    (Eq.mp (show S_stavelaw17_PlogRefuses a0 a1 a2 w R = funcVC Tryd.prog Tryd.f9 A_stavelaw17_PlogRefuses [a0, a1, a2] w R by kernel_rfl) h)

/-- stave/stavelaw17.PlogTimes -/
def A_stavelaw17_PlogTimes : Ann := (.seq .nil (.seq .nil (.seq (.join [28] .nil .nil) (.seq (.seq .nil (.one (.loop [9] (.seq (.join [36] .nil .nil) .nil)))) (.seq .nil (.seq .nil (.seq .nil (.seq (.join [76] .nil .nil) (.seq .nil (.seq .nil (.seq (.join [95] .nil .nil) (.seq (.seq .nil (.one (.loop [18] .nil))) .nil))))))))))))
def S_stavelaw17_PlogTimes (a0 : Value) (a1 : Value) (a2 : Value) (w : World) (R : Ending → World → Prop) : Prop :=
  xE Tryd.prog (sCall 23 #[(.int .i64 0)]) w fun v20_1 w2 =>
  xP Tryd.prog (sExtract v20_1 0) fun v21_3 =>
  xP Tryd.prog (sExtract v20_1 1) fun v22_4 =>
  xJoin (fun J5 =>
    xR Tryd.prog (sEq .eql 46 true v21_3 (.pointer none)) w2 fun v24_6 =>
    xIf v24_6 (
    J5 [(.bool true)] w2) (
    xR Tryd.prog (sEq .neq 23 true v22_4 (.nilIface)) w2 fun v27_7 =>
    J5 [v27_7] w2)) fun vs8 _ w10 =>
  xIf (vs8.getD 0 undef) (
    R (.returned (.bool false)) w10) (
    xLoop [(.int .i64 0)] w10 fun J11 vs12 _ w14 =>
    xJoin (fun J15 =>
      xP Tryd.prog (sB .len #[56] #[a0]) fun v31_16 =>
      xP Tryd.prog (sBin .lss 3 (vs12.getD 0 undef) v31_16) fun v32_17 =>
      xIf v32_17 (
      xP Tryd.prog (sBin .lss 3 (vs12.getD 0 undef) (.int .i64 20)) fun v35_18 =>
      J15 [v35_18] w14) (
      J15 [(.bool false)] w14)) fun vs19 _ w21 =>
    xIf (vs19.getD 0 undef) (
      xP Tryd.prog (sBin .rem 3 (vs12.getD 0 undef) (.int .i64 3)) fun v42_22 =>
    xP Tryd.prog (sBin .add 3 (.int .i64 1) v42_22) fun v43_23 =>
    xP Tryd.prog (sIA 56 a0 (vs12.getD 0 undef)) fun v46_24 =>
    xR Tryd.prog (sLoad 3 v46_24) w21 fun v47_25 =>
    xE Tryd.prog (sCall 21 #[v47_25, (.int .i64 0), (.int .i64 30)]) w21 fun v48_26 w27 =>
    xE Tryd.prog (sCall 24 #[v21_3, v43_23, v48_26, (vs12.getD 0 undef), (.int .i64 0)]) w27 fun v50_28 w29 =>
    xP Tryd.prog (sExtract v50_28 0) fun _ =>
    xP Tryd.prog (sExtract v50_28 1) fun v52_31 =>
    xR Tryd.prog (sEq .neq 23 true v52_31 (.nilIface)) w29 fun v54_32 =>
    xIf v54_32 (
      R (.returned (.bool false)) w29) (
      xP Tryd.prog (sBin .add 3 (vs12.getD 0 undef) (.int .i64 1)) fun v38_33 =>
    J11 [v38_33] w29)) (
      xE Tryd.prog (sCall 31 #[v21_3]) w21 fun v58_34 w35 =>
  xE Tryd.prog (sCall 21 #[a2, (.int .i64 0), v58_34]) w35 fun v59_36 w37 =>
  xE Tryd.prog (sCall 26 #[v21_3, v59_36]) w37 fun v60_38 w39 =>
  xR Tryd.prog (sEq .neq 23 true v60_38 (.nilIface)) w39 fun v61_40 =>
  xIf v61_40 (
    R (.returned (.bool false)) w39) (
    xE Tryd.prog (sCall 21 #[a1, (.int .i64 0), (.int .i64 31)]) w39 fun v63_41 w42 =>
  xE Tryd.prog (sCall 32 #[v21_3, v63_41]) w42 fun v66_43 w44 =>
  xJoin (fun J45 =>
    xE Tryd.prog (sCall 29 #[v21_3]) w44 fun v69_46 w47 =>
    xP Tryd.prog (sBin .lss 3 v66_43 v69_46) fun v70_48 =>
    xIf v70_48 (
    J45 [(.bool true)] w47) (
    xE Tryd.prog (sCall 31 #[v21_3]) w47 fun v74_49 w50 =>
    xP Tryd.prog (sBin .gtr 3 v66_43 v74_49) fun v75_51 =>
    J45 [v75_51] w50)) fun vs52 _ w54 =>
  xIf (vs52.getD 0 undef) (
    R (.returned (.bool false)) w54) (
    xE Tryd.prog (sCall 29 #[v21_3]) w54 fun v80_55 w56 =>
  xE Tryd.prog (sCall 25 #[v21_3, v80_55]) w56 fun v81_57 w58 =>
  xP Tryd.prog (sExtract v81_57 0) fun v82_59 =>
  xP Tryd.prog (sExtract v81_57 1) fun v83_60 =>
  xE Tryd.prog (sCall 25 #[v21_3, v66_43]) w58 fun v87_61 w62 =>
  xP Tryd.prog (sExtract v87_61 0) fun v88_63 =>
  xP Tryd.prog (sExtract v87_61 1) fun v89_64 =>
  xJoin (fun J65 =>
    xR Tryd.prog (sEq .neq 23 true v83_60 (.nilIface)) w62 fun v91_66 =>
    xIf v91_66 (
    J65 [(.bool true)] w62) (
    xR Tryd.prog (sEq .neq 23 true v89_64 (.nilIface)) w62 fun v94_67 =>
    J65 [v94_67] w62)) fun vs68 _ w70 =>
  xIf (vs68.getD 0 undef) (
    R (.returned (.bool false)) w70) (
    xLoop [(.int .i64 0)] w70 fun J71 vs72 _ w74 =>
    xP Tryd.prog (sB .len #[51] #[v82_59]) fun v98_75 =>
    xP Tryd.prog (sB .len #[51] #[v88_63]) fun v100_76 =>
    xP Tryd.prog (sBin .sub 3 v98_75 v100_76) fun v101_77 =>
    xP Tryd.prog (sBin .lss 3 (vs72.getD 0 undef) v101_77) fun v102_78 =>
    xIf v102_78 (
      xP Tryd.prog (sIA 51 v82_59 (vs72.getD 0 undef)) fun v107_79 =>
    xP Tryd.prog (sFA 64 v107_79 2) fun v108_80 =>
    xR Tryd.prog (sLoad 3 v108_80) w74 fun v109_81 =>
    xP Tryd.prog (sBin .geq 3 v109_81 v63_41) fun v111_82 =>
    xIf v111_82 (
      R (.returned (.bool false)) w74) (
      xP Tryd.prog (sBin .add 3 (vs72.getD 0 undef) (.int .i64 1)) fun v104_83 =>
    J71 [v104_83] w74)) (
      xP Tryd.prog (sB .len #[51] #[v88_63]) fun v113_84 =>
  xR Tryd.prog (sEq .eql 3 true v113_84 (.int .i64 0)) w74 fun v114_85 =>
  xIf v114_85 (
  xP Tryd.prog (sB .len #[51] #[v88_63]) fun v125_86 =>
  xP Tryd.prog (sBin .gtr 3 v125_86 (.int .i64 0)) fun v126_87 =>
  xIf v126_87 (
  xE Tryd.prog (sCall 7 #[]) w74 fun v135_88 w89 =>
  R (.returned v135_88) w89) (
  xE Tryd.prog (sCall 31 #[v21_3]) w74 fun v130_90 w91 =>
  xR Tryd.prog (sEq .eql 3 false v66_43 v130_90) w91 fun v131_92 =>
  xIf v131_92 (
  xE Tryd.prog (sCall 7 #[]) w91 fun v135_93 w94 =>
  R (.returned v135_93) w94) (
  R (.returned (.bool false)) w91))) (
  xP Tryd.prog (sIA 51 v88_63 (.int .i64 0)) fun v117_95 =>
  xP Tryd.prog (sFA 64 v117_95 2) fun v118_96 =>
  xR Tryd.prog (sLoad 3 v118_96) w74 fun v119_97 =>
  xP Tryd.prog (sBin .geq 3 v119_97 v63_41) fun v121_98 =>
  xIf v121_98 (
  xP Tryd.prog (sB .len #[51] #[v88_63]) fun v125_99 =>
  xP Tryd.prog (sBin .gtr 3 v125_99 (.int .i64 0)) fun v126_100 =>
  xIf v126_100 (
  xE Tryd.prog (sCall 7 #[]) w74 fun v135_101 w102 =>
  R (.returned v135_101) w102) (
  xE Tryd.prog (sCall 31 #[v21_3]) w74 fun v130_103 w104 =>
  xR Tryd.prog (sEq .eql 3 false v66_43 v130_103) w104 fun v131_105 =>
  xIf v131_105 (
  xE Tryd.prog (sCall 7 #[]) w104 fun v135_106 w107 =>
  R (.returned v135_106) w107) (
  R (.returned (.bool false)) w104))) (
  R (.returned (.bool false)) w74))))))))
theorem C_stavelaw17_PlogTimes {a0 : Value} {a1 : Value} {a2 : Value} {w : World} {R : Ending → World → Prop} (h : S_stavelaw17_PlogTimes a0 a1 a2 w R) : Calls Tryd.prog 10 #[a0, a1, a2] w R :=
  funcVC_sound (an := A_stavelaw17_PlogTimes) (args := [a0, a1, a2]) (k := 3) Tryd.func10 (by kernel_rfl) rfl
    (Eq.mp (show S_stavelaw17_PlogTimes a0 a1 a2 w R = funcVC Tryd.prog Tryd.f10 A_stavelaw17_PlogTimes [a0, a1, a2] w R by kernel_rfl) h)

/-- stave/stavelaw17.PlogGapless -/
def A_stavelaw17_PlogGapless : Ann := (.seq .nil (.seq .nil (.seq (.join [30] .nil .nil) (.seq (.seq .nil (.one (.loop [7] (.seq (.join [38] .nil .nil) (.seq (.one (.seq .nil (.seq .nil (.join [11] (.seq .nil (.one (.seq .nil (.seq (.seq (.draw (.pre [0, 1, 2, 3, 4, 5, 6, 7, 8, 9, 10, 11, 12, 13, 14, 15, 16] .nil) [0, 0, 0, 6, 14, 30, 0, 0, 192, 448, 960, 2047, 4095, 8191, 8191, 16383, 65535]) .nil) .nil)))) (.seq (.join [140] .nil .nil) (.seq .nil (.seq (.join [156] .nil .nil) (.seq .nil (.seq (.seq .nil (.one (.loop [16, 161] (.seq .nil (.seq .nil (.seq (.one (.seq .nil (.seq (.join [192] .nil .nil) .nil))) .nil)))))) (.join [207] .nil .nil)))))))))) .nil))))) .nil))))
def S_stavelaw17_PlogGapless (a0 : Value) (a1 : Value) (w : World) (R : Ending → World → Prop) : Prop :=
  xE Tryd.prog (sCall 21 #[a0, (.int .i64 0), (.int .i64 1099511627776)]) w fun v21_1 w2 =>
  xE Tryd.prog (sCall 23 #[v21_1]) w2 fun v22_3 w4 =>
  xP Tryd.prog (sExtract v22_3 0) fun v23_5 =>
  xP Tryd.prog (sExtract v22_3 1) fun v24_6 =>
  xJoin (fun J7 =>
    xR Tryd.prog (sEq .eql 46 true v23_5 (.pointer none)) w4 fun v26_8 =>
    xIf v26_8 (
    J7 [(.bool true)] w4) (
    xR Tryd.prog (sEq .neq 23 true v24_6 (.nilIface)) w4 fun v29_9 =>
    J7 [v29_9] w4)) fun vs10 _ w12 =>
  xIf (vs10.getD 0 undef) (
    R (.returned (.bool false)) w12) (
    xLoop [(.int .i64 0)] w12 fun J13 vs14 _ w16 =>
    xJoin (fun J17 =>
      xP Tryd.prog (sB .len #[65] #[a1]) fun v33_18 =>
      xP Tryd.prog (sBin .lss 3 (vs14.getD 0 undef) v33_18) fun v34_19 =>
      xIf v34_19 (
      xP Tryd.prog (sBin .lss 3 (vs14.getD 0 undef) (.int .i64 50)) fun v37_20 =>
      J17 [v37_20] w16) (
      J17 [(.bool false)] w16)) fun vs21 _ w23 =>
    xIf (vs21.getD 0 undef) (
      xE Tryd.prog (sCall 29 #[v23_5]) w23 fun v42_24 w25 =>
    xE Tryd.prog (sCall 31 #[v23_5]) w25 fun v44_26 w27 =>
    xE Tryd.prog (sCall 30 #[v23_5]) w27 fun v46_28 w29 =>
    xJoin (fun J30 =>
      xP Tryd.prog (sIA 65 a1 (vs14.getD 0 undef)) fun v49_31 =>
      xP Tryd.prog (sFA 67 v49_31 0) fun v50_32 =>
      xR Tryd.prog (sLoad 3 v50_32) w29 fun v51_33 =>
      xR Tryd.prog (sEq .eql 3 true v51_33 (.int .i64 1)) w29 fun v53_34 =>
      xIf v53_34 (
        xP Tryd.prog (sIA 65 a1 (vs14.getD 0 undef)) fun v58_35 =>
        xP Tryd.prog (sFA 67 v58_35 1) fun v59_36 =>
        xR Tryd.prog (sLoad 3 v59_36) (w29.drew) fun v60_37 =>
        xP Tryd.prog (sIA 65 a1 (vs14.getD 0 undef)) fun v63_38 =>
        xP Tryd.prog (sFA 67 v63_38 2) fun v64_39 =>
        xR Tryd.prog (sLoad 3 v64_39) (w29.drew) fun v65_40 =>
        xE Tryd.prog (sCall 24 #[v23_5, v60_37, v65_40, (.int .i64 1), (.int .i64 1)]) (w29.drew) fun v66_41 w42 =>
        xP Tryd.prog (sExtract v66_41 0) fun _ =>
        xP Tryd.prog (sExtract v66_41 1) fun v68_44 =>
        xR Tryd.prog (sEq .neq 23 true v68_44 (.nilIface)) w42 fun v70_45 =>
        J30 [v70_45] w42) (
        xR Tryd.prog (sEq .eql 3 true v51_33 (.int .i64 3)) w29 fun v72_46 =>
        xIf v72_46 (
          xP Tryd.prog (sIA 65 a1 (vs14.getD 0 undef)) fun v77_47 =>
          xP Tryd.prog (sFA 67 v77_47 1) fun v78_48 =>
          xR Tryd.prog (sLoad 3 v78_48) w29 fun v79_49 =>
          xE Tryd.prog (sCall 21 #[v79_49, (.int .i64 0), (.int .i64 12)]) w29 fun v80_50 w51 =>
          xP Tryd.prog (sBin .add 3 v42_24 v80_50) fun v81_52 =>
          xE Tryd.prog (sCall 26 #[v23_5, v81_52]) w51 fun v82_53 w54 =>
          xR Tryd.prog (sEq .neq 23 true v82_53 (.nilIface)) w54 fun v83_55 =>
          J30 [v83_55] w54) (
          xR Tryd.prog (sEq .eql 3 true v51_33 (.int .i64 4)) w29 fun v85_56 =>
          xIf v85_56 (
            xP Tryd.prog (sIA 65 a1 (vs14.getD 0 undef)) fun v89_57 =>
            xP Tryd.prog (sFA 67 v89_57 1) fun v90_58 =>
            xR Tryd.prog (sLoad 3 v90_58) w29 fun v91_59 =>
            xE Tryd.prog (sCall 21 #[v91_59, (.int .i64 0), (.int .i64 9)]) w29 fun v92_60 w61 =>
            xE Tryd.prog (sCall 33 #[v23_5, v92_60]) w61 fun _ w63 =>
            J30 [(.bool false)] w63) (
            xR Tryd.prog (sEq .eql 3 true v51_33 (.int .i64 5)) w29 fun v95_64 =>
            xIf v95_64 (
              xP Tryd.prog (sIA 65 a1 (vs14.getD 0 undef)) fun v99_65 =>
              xP Tryd.prog (sFA 67 v99_65 1) fun v100_66 =>
              xR Tryd.prog (sLoad 3 v100_66) w29 fun v101_67 =>
              xE Tryd.prog (sCall 34 #[v23_5, v101_67]) w29 fun _ w69 =>
              J30 [(.bool false)] w69) (
              J30 [(.bool false)] w29))))) fun vs70 _ w72 =>
    xJoin (fun J73 =>
      xE Tryd.prog (sCall 29 #[v23_5]) w72 fun v104_74 w75 =>
      xP Tryd.prog (sBin .lss 3 v104_74 v42_24) fun v106_76 =>
      xIf v106_76 (
      J73 [(.bool true)] w75) (
      xE Tryd.prog (sCall 31 #[v23_5]) w75 fun v109_77 w78 =>
      xP Tryd.prog (sBin .lss 3 v109_77 v44_26) fun v111_79 =>
      xIf v111_79 (
      J73 [(.bool true)] w78) (
      xE Tryd.prog (sCall 29 #[v23_5]) w78 fun v115_80 w81 =>
      xE Tryd.prog (sCall 31 #[v23_5]) w81 fun v117_82 w83 =>
      xP Tryd.prog (sBin .gtr 3 v115_80 v117_82) fun v118_84 =>
      xIf v118_84 (
      J73 [(.bool true)] w83) (
      xIf (vs70.getD 0 undef) (
      xE Tryd.prog (sCall 29 #[v23_5]) w83 fun v124_85 w86 =>
      xR Tryd.prog (sEq .neq 3 false v124_85 v42_24) w86 fun v126_87 =>
      xIf v126_87 (
      J73 [(.bool true)] w86) (
      xE Tryd.prog (sCall 31 #[v23_5]) w86 fun v129_88 w89 =>
      xR Tryd.prog (sEq .neq 3 false v129_88 v44_26) w89 fun v131_90 =>
      xIf v131_90 (
      J73 [(.bool true)] w89) (
      xE Tryd.prog (sCall 30 #[v23_5]) w89 fun v135_91 w92 =>
      xR Tryd.prog (sEq .neq 3 false v135_91 v46_28) w92 fun v137_93 =>
      J73 [v137_93] w92))) (
      J73 [(.bool false)] w83))))) fun vs94 _ w96 =>
    xIf (vs94.getD 0 undef) (
      R (.returned (.bool false)) w96) (
      xE Tryd.prog (sCall 29 #[v23_5]) w96 fun v144_97 w98 =>
    xE Tryd.prog (sCall 25 #[v23_5, v144_97]) w98 fun v145_99 w100 =>
    xP Tryd.prog (sExtract v145_99 0) fun v146_101 =>
    xP Tryd.prog (sExtract v145_99 1) fun v147_102 =>
    xJoin (fun J103 =>
      xR Tryd.prog (sEq .neq 23 true v147_102 (.nilIface)) w100 fun v149_104 =>
      xIf v149_104 (
      J103 [(.bool true)] w100) (
      xP Tryd.prog (sB .len #[51] #[v146_101]) fun v152_105 =>
      xE Tryd.prog (sCall 30 #[v23_5]) w100 fun v154_106 w107 =>
      xR Tryd.prog (sEq .neq 3 false v152_105 v154_106) w107 fun v155_108 =>
      J103 [v155_108] w107)) fun vs109 _ w111 =>
    xIf (vs109.getD 0 undef) (
      R (.returned (.bool false)) w111) (
      xE Tryd.prog (sCall 29 #[v23_5]) w111 fun v158_112 w113 =>
    xP Tryd.prog (sB .len #[51] #[v146_101]) fun v160_114 =>
    xLoop [v158_112, (.int .i64 0)] w113 fun J115 vs116 _ w118 =>
      xP Tryd.prog (sBin .lss 3 (vs116.getD 1 undef) v160_114) fun v162_119 =>
      xIf v162_119 (
        xP Tryd.prog (sIA 51 v146_101 (vs116.getD 1 undef)) fun v164_120 =>
      xR Tryd.prog (sLoad 64 v164_120) w118 fun v165_121 =>
      xE Tryd.prog (sAlloc 64) w118 fun v18_122 w123 =>
      xE Tryd.prog (sStore 64 v18_122 v165_121) w123 fun _ w124 =>
      xJoin (fun J125 =>
        xP Tryd.prog (sBin .gtr 3 (vs116.getD 1 undef) (.int .i64 0)) fun v167_126 =>
        xIf v167_126 (
        xP Tryd.prog (sFA 64 v18_122 0) fun v169_127 =>
        xR Tryd.prog (sLoad 3 v169_127) w124 fun v170_128 =>
        xR Tryd.prog (sEq .neq 3 false v170_128 (vs116.getD 0 undef)) w124 fun v172_129 =>
        xIf v172_129 (
        J125 [(.bool true)] w124) (
        xR Tryd.prog (sEq .eql 3 true (vs116.getD 1 undef) (.int .i64 0)) w124 fun v176_130 =>
        xIf v176_130 (
        xP Tryd.prog (sFA 64 v18_122 0) fun v178_131 =>
        xR Tryd.prog (sLoad 3 v178_131) w124 fun v179_132 =>
        xP Tryd.prog (sBin .gtr 3 v179_132 (vs116.getD 0 undef)) fun v181_133 =>
        xIf v181_133 (
        J125 [(.bool true)] w124) (
        xP Tryd.prog (sFA 64 v18_122 0) fun v183_134 =>
        xR Tryd.prog (sLoad 3 v183_134) w124 fun v184_135 =>
        xP Tryd.prog (sFA 64 v18_122 1) fun v185_136 =>
        xR Tryd.prog (sLoad 3 v185_136) w124 fun v186_137 =>
        xP Tryd.prog (sBin .add 3 v184_135 v186_137) fun v187_138 =>
        xP Tryd.prog (sBin .leq 3 v187_138 (vs116.getD 0 undef)) fun v189_139 =>
        J125 [v189_139] w124)) (
        J125 [(.bool false)] w124))) (
        xR Tryd.prog (sEq .eql 3 true (vs116.getD 1 undef) (.int .i64 0)) w124 fun v176_140 =>
        xIf v176_140 (
        xP Tryd.prog (sFA 64 v18_122 0) fun v178_141 =>
        xR Tryd.prog (sLoad 3 v178_141) w124 fun v179_142 =>
        xP Tryd.prog (sBin .gtr 3 v179_142 (vs116.getD 0 undef)) fun v181_143 =>
        xIf v181_143 (
        J125 [(.bool true)] w124) (
        xP Tryd.prog (sFA 64 v18_122 0) fun v183_144 =>
        xR Tryd.prog (sLoad 3 v183_144) w124 fun v184_145 =>
        xP Tryd.prog (sFA 64 v18_122 1) fun v185_146 =>
        xR Tryd.prog (sLoad 3 v185_146) w124 fun v186_147 =>
        xP Tryd.prog (sBin .add 3 v184_145 v186_147) fun v187_148 =>
        xP Tryd.prog (sBin .leq 3 v187_148 (vs116.getD 0 undef)) fun v189_149 =>
        J125 [v189_149] w124)) (
        J125 [(.bool false)] w124))) fun vs150 _ w152 =>
      xIf (vs150.getD 0 undef) (
        R (.returned (.bool false)) w152) (
        xP Tryd.prog (sFA 64 v18_122 0) fun v193_153 =>
      xR Tryd.prog (sLoad 3 v193_153) w152 fun v194_154 =>
      xP Tryd.prog (sFA 64 v18_122 1) fun v195_155 =>
      xR Tryd.prog (sLoad 3 v195_155) w152 fun v196_156 =>
      xP Tryd.prog (sBin .add 3 v194_154 v196_156) fun v197_157 =>
      xP Tryd.prog (sBin .add 3 (vs116.getD 1 undef) (.int .i64 1)) fun v198_158 =>
      J115 [v197_157, v198_158] w152)) (
        xJoin (fun J159 =>
      xP Tryd.prog (sB .len #[51] #[v146_101]) fun v200_160 =>
      xP Tryd.prog (sBin .gtr 3 v200_160 (.int .i64 0)) fun v201_161 =>
      xIf v201_161 (
      xE Tryd.prog (sCall 31 #[v23_5]) w118 fun v205_162 w163 =>
      xR Tryd.prog (sEq .neq 3 false (vs116.getD 0 undef) v205_162) w163 fun v206_164 =>
      J159 [v206_164] w163) (
      J159 [(.bool false)] w118)) fun vs165 _ w167 =>
    xIf (vs165.getD 0 undef) (
      R (.returned (.bool false)) w167) (
      xP Tryd.prog (sBin .add 3 (vs14.getD 0 undef) (.int .i64 1)) fun v40_168 =>
    J13 [v40_168] w167))))) (
      xE Tryd.prog (sCall 7 #[]) w23 fun v208_169 w170 =>
  R (.returned v208_169) w170))
theorem C_stavelaw17_PlogGapless {a0 : Value} {a1 : Value} {w : World} {R : Ending → World → Prop} (h : S_stavelaw17_PlogGapless a0 a1 w R) : Calls Tryd.prog 11 #[a0, a1] w R :=
  funcVC_sound (an := A_stavelaw17_PlogGapless) (args := [a0, a1]) (k := 2) Tryd.func11 (by kernel_rfl) rfl
    (Eq.mp (show S_stavelaw17_PlogGapless a0 a1 w R = funcVC Tryd.prog Tryd.f11 A_stavelaw17_PlogGapless [a0, a1] w R by kernel_rfl) h)

/-- stave/stavelaw17.PlogTrims -/
def A_stavelaw17_PlogTrims : Ann := (.seq .nil (.seq .nil (.seq (.join [35] .nil .nil) (.seq .nil (.seq (.seq .nil (.one (.loop [11, 12] (.seq (.join [43] .nil .nil) .nil)))) (.seq .nil (.seq .nil (.seq (.join [90] .nil .nil) (.seq (.one (.loop [11] (.seq (.join [106] (.draw (.pre [0, 1, 2, 3, 4, 5, 6, 7, 8, 9, 10, 11, 12, 13, 14, 15] .nil) [0, 1, 3, 7, 15, 31, 63, 127, 15, 271, 783, 1807, 4095, 15, 16383, 32767]) .nil) .nil))) (.seq .nil (.seq (.join [122] .nil .nil) (.seq .nil (.seq .nil (.seq .nil (.seq (.join [153] .nil .nil) (.seq .nil (.seq .nil (.seq .nil (.seq (.one (.loop [25] (.seq (.join [171] .nil .nil) .nil))) (.seq (.join [192] .nil .nil) (.seq (.draw (.pre [0, 1, 2, 3, 4, 6, 7, 8, 9, 10, 11, 12, 13, 14, 15, 16, 17, 5, 18, 19, 20, 21, 23, 22, 24, 25, 26, 27, 28, 29] .nil) [0, 1, 3, 7, 15, 31, 15, 15, 207, 463, 975, 15, 15, 6159, 14351, 30735, 65487, 131023, 262143, 524287, 1048575, 2097151, 4194303, 2097151, 16777215, 33554431, 67108863, 134217727, 268435455, 536870911]) .nil)))))))))))))))))))))
def S_stavelaw17_PlogTrims (a0 : Value) (a1 : Value) (a2 : Value) (a3 : Value) (w : World) (R : Ending → World → Prop) : Prop :=
  xE Tryd.prog (sCall 23 #[(.int .i64 100)]) w fun v27_1 w2 =>
  xP Tryd.prog (sExtract v27_1 0) fun v28_3 =>
  xP Tryd.prog (sExtract v27_1 1) fun v29_4 =>
  xJoin (fun J5 =>
    xR Tryd.prog (sEq .eql 46 true v28_3 (.pointer none)) w2 fun v31_6 =>
    xIf v31_6 (
    J5 [(.bool true)] w2) (
    xR Tryd.prog (sEq .neq 23 true v29_4 (.nilIface)) w2 fun v34_7 =>
    J5 [v34_7] w2)) fun vs8 _ w10 =>
  xIf (vs8.getD 0 undef) (
    R (.returned (.bool false)) w10) (
    xLoop [(.slice none 0 0), (.int .i64 0)] w10 fun J11 vs12 _ w14 =>
    xJoin (fun J15 =>
      xP Tryd.prog (sB .len #[56] #[a0]) fun v38_16 =>
      xP Tryd.prog (sBin .lss 3 (vs12.getD 1 undef) v38_16) fun v39_17 =>
      xIf v39_17 (
      xP Tryd.prog (sBin .lss 3 (vs12.getD 1 undef) (.int .i64 20)) fun v42_18 =>
      J15 [v42_18] w14) (
      J15 [(.bool false)] w14)) fun vs19 _ w21 =>
    xIf (vs19.getD 0 undef) (
      xP Tryd.prog (sIA 56 a0 (vs12.getD 1 undef)) fun v48_22 =>
    xR Tryd.prog (sLoad 3 v48_22) w21 fun v49_23 =>
    xE Tryd.prog (sCall 21 #[v49_23, (.int .i64 1), (.int .i64 8)]) w21 fun v50_24 w25 =>
    xE Tryd.prog (sCall 24 #[v28_3, v50_24, (vs12.getD 1 undef), (vs12.getD 1 undef), (.int .i64 0)]) w25 fun v56_26 w27 =>
    xP Tryd.prog (sExtract v56_26 0) fun v57_28 =>
    xP Tryd.prog (sExtract v56_26 1) fun v58_29 =>
    xR Tryd.prog (sEq .neq 23 true v58_29 (.nilIface)) w27 fun v60_30 =>
    xIf v60_30 (
      R (.returned (.bool false)) w27) (
      xP Tryd.prog (sBuild 64 #[(0, v57_28), (1, v50_24), (2, (vs12.getD 1 undef)), (3, (vs12.getD 1 undef))]) fun v66_31 =>
    xE Tryd.prog (sBuildSlice 51 1 #[(0, v66_31)]) w27 fun v67_32 w33 =>
    xE Tryd.prog (sB .append #[51, 51] #[(vs12.getD 0 undef), v67_32]) w33 fun v68_34 w35 =>
    xP Tryd.prog (sBin .add 3 (vs12.getD 1 undef) (.int .i64 1)) fun v45_36 =>
    J11 [v68_34, v45_36] w35)) (
      xE Tryd.prog (sCall 31 #[v28_3]) w21 fun v71_37 w38 =>
  xE Tryd.prog (sCall 21 #[a1, (.int .i64 100), v71_37]) w38 fun v72_39 w40 =>
  xE Tryd.prog (sCall 31 #[v28_3]) w40 fun v74_41 w42 =>
  xJoin (fun J43 =>
    xE Tryd.prog (sCall 26 #[v28_3, v72_39]) w42 fun v77_44 w45 =>
    xR Tryd.prog (sEq .neq 23 true v77_44 (.nilIface)) w45 fun v78_46 =>
    xIf v78_46 (
    J43 [(.bool true)] w45) (
    xE Tryd.prog (sCall 29 #[v28_3]) w45 fun v81_47 w48 =>
    xR Tryd.prog (sEq .neq 3 false v81_47 v72_39) w48 fun v83_49 =>
    xIf v83_49 (
    J43 [(.bool true)] w48) (
    xE Tryd.prog (sCall 31 #[v28_3]) w48 fun v87_50 w51 =>
    xR Tryd.prog (sEq .neq 3 false v87_50 v74_41) w51 fun v89_52 =>
    J43 [v89_52] w51))) fun vs53 _ w55 =>
  xIf (vs53.getD 0 undef) (
    R (.returned (.bool false)) w55) (
    xLoop [(vs12.getD 0 undef)] w55 fun J56 vs57 _ w59 =>
    xJoin (fun J60 =>
      xP Tryd.prog (sB .len #[51] #[(vs57.getD 0 undef)]) fun v92_61 =>
      xP Tryd.prog (sBin .gtr 3 v92_61 (.int .i64 0)) fun v93_62 =>
      xIf v93_62 (
      xP Tryd.prog (sIA 51 (vs57.getD 0 undef) (.int .i64 0)) fun v96_63 =>
      xP Tryd.prog (sFA 64 v96_63 0) fun v97_64 =>
      xR Tryd.prog (sLoad 3 v97_64) (w59.drew) fun v98_65 =>
      xP Tryd.prog (sIA 51 (vs57.getD 0 undef) (.int .i64 0)) fun v100_66 =>
      xP Tryd.prog (sFA 64 v100_66 1) fun v101_67 =>
      xR Tryd.prog (sLoad 3 v101_67) (w59.drew) fun v102_68 =>
      xP Tryd.prog (sBin .add 3 v98_65 v102_68) fun v103_69 =>
      xP Tryd.prog (sBin .leq 3 v103_69 v72_39) fun v105_70 =>
      J60 [v105_70] (w59.drew)) (
      J60 [(.bool false)] (w59.drew))) fun vs71 _ w73 =>
    xIf (vs71.getD 0 undef) (
      xP Tryd.prog (sSlice 51 (vs57.getD 0 undef) (some (.int .i64 1)) none none) fun v108_74 =>
    J56 [v108_74] w73) (
      xE Tryd.prog (sCall 25 #[v28_3, v72_39]) w73 fun v112_75 w76 =>
  xP Tryd.prog (sExtract v112_75 0) fun v113_77 =>
  xP Tryd.prog (sExtract v112_75 1) fun v114_78 =>
  xJoin (fun J79 =>
    xR Tryd.prog (sEq .neq 23 true v114_78 (.nilIface)) w76 fun v116_80 =>
    xIf v116_80 (
    J79 [(.bool true)] w76) (
    xE Tryd.prog (sCall 35 #[v113_77, (vs57.getD 0 undef)]) w76 fun v120_81 w82 =>
    xP Tryd.prog (sUn .not v120_81) fun v121_83 =>
    J79 [v121_83] w82)) fun vs84 _ w86 =>
  xIf (vs84.getD 0 undef) (
    R (.returned (.bool false)) w86) (
    xP Tryd.prog (sBin .sub 3 v72_39 (.int .i64 1)) fun v126_87 =>
  xE Tryd.prog (sCall 25 #[v28_3, v126_87]) w86 fun v127_88 w89 =>
  xP Tryd.prog (sExtract v127_88 0) fun _ =>
  xP Tryd.prog (sExtract v127_88 1) fun v129_91 =>
  xE Tryd.prog (sCall 17 #[v129_91]) w89 fun v131_92 w93 =>
  xR Tryd.prog (sEq .neq 25 true v131_92 (.int .i64 13)) w93 fun v132_94 =>
  xIf v132_94 (
    R (.returned (.bool false)) w93) (
    xE Tryd.prog (sCall 21 #[a2, (.int .i64 0), (.int .i64 20)]) w93 fun v134_95 w96 =>
  xE Tryd.prog (sCall 33 #[v28_3, v134_95]) w96 fun v137_97 w98 =>
  xJoin (fun J99 =>
    xP Tryd.prog (sB .len #[51] #[(vs57.getD 0 undef)]) fun v140_100 =>
    xP Tryd.prog (sBin .sub 3 v140_100 v134_95) fun v142_101 =>
    xP Tryd.prog (sB .max #[3, 3] #[v142_101, (.int .i64 0)]) fun v143_102 =>
    xR Tryd.prog (sEq .neq 3 false v137_97 v143_102) w98 fun v144_103 =>
    xIf v144_103 (
    J99 [(.bool true)] w98) (
    xE Tryd.prog (sCall 30 #[v28_3]) w98 fun v147_104 w105 =>
    xP Tryd.prog (sB .len #[51] #[(vs57.getD 0 undef)]) fun v149_106 =>
    xP Tryd.prog (sBin .sub 3 v149_106 v137_97) fun v151_107 =>
    xR Tryd.prog (sEq .neq 3 false v147_104 v151_107) w105 fun v152_108 =>
    J99 [v152_108] w105)) fun vs109 _ w111 =>
  xIf (vs109.getD 0 undef) (
    R (.returned (.bool false)) w111) (
    xP Tryd.prog (sSlice 51 (vs57.getD 0 undef) (some v137_97) none none) fun v156_112 =>
  xE Tryd.prog (sCall 21 #[a3, (.int .i64 0), (.int .i64 21)]) w111 fun v158_113 w114 =>
  xLoop [(.int .i64 0)] w114 fun J115 vs116 _ w118 =>
    xJoin (fun J119 =>
      xP Tryd.prog (sB .len #[51] #[v156_112]) fun v161_120 =>
      xP Tryd.prog (sBin .lss 3 (vs116.getD 0 undef) v161_120) fun v162_121 =>
      xIf v162_121 (
      xP Tryd.prog (sIA 51 v156_112 (vs116.getD 0 undef)) fun v166_122 =>
      xP Tryd.prog (sFA 64 v166_122 2) fun v167_123 =>
      xR Tryd.prog (sLoad 3 v167_123) w118 fun v168_124 =>
      xP Tryd.prog (sBin .lss 3 v168_124 v158_113) fun v170_125 =>
      J119 [v170_125] w118) (
      J119 [(.bool false)] w118)) fun vs126 _ w128 =>
    xIf (vs126.getD 0 undef) (
      xP Tryd.prog (sBin .add 3 (vs116.getD 0 undef) (.int .i64 1)) fun v173_129 =>
    J115 [v173_129] w128) (
      xJoin (fun J130 =>
    xE Tryd.prog (sCall 34 #[v28_3, v158_113]) w128 fun v176_131 w132 =>
    xR Tryd.prog (sEq .neq 3 false v176_131 (vs116.getD 0 undef)) w132 fun v178_133 =>
    xIf v178_133 (
    J130 [(.bool true)] w132) (
    xE Tryd.prog (sCall 30 #[v28_3]) w132 fun v181_134 w135 =>
    xP Tryd.prog (sB .len #[51] #[v156_112]) fun v183_136 =>
    xP Tryd.prog (sBin .sub 3 v183_136 (vs116.getD 0 undef)) fun v185_137 =>
    xR Tryd.prog (sEq .neq 3 false v181_134 v185_137) w135 fun v186_138 =>
    xIf v186_138 (
    J130 [(.bool true)] w135) (
    xE Tryd.prog (sCall 33 #[v28_3, (.int .i64 (-1))]) w135 fun v190_139 w140 =>
    xR Tryd.prog (sEq .neq 3 true v190_139 (.int .i64 0)) w140 fun v191_141 =>
    J130 [v191_141] w140))) fun vs142 _ w144 =>
  xIf (vs142.getD 0 undef) (
    R (.returned (.bool false)) w144) (
    xE Tryd.prog (sCall 30 #[v28_3]) (w144.drew) fun v194_145 w146 =>
  xR Tryd.prog (sEq .eql 3 true v194_145 (.int .i64 0)) w146 fun v195_147 =>
  xIf v195_147 (
  xE Tryd.prog (sCall 31 #[v28_3]) w146 fun v215_148 w149 =>
  xR Tryd.prog (sEq .eql 3 false v215_148 v74_41) w149 fun v217_150 =>
  xIf v217_150 (
  xE Tryd.prog (sCall 7 #[]) w149 fun v220_151 w152 =>
  R (.returned v220_151) w152) (
  R (.returned (.bool false)) w149)) (
  xP Tryd.prog (sIA 51 v156_112 (vs116.getD 0 undef)) fun v201_153 =>
  xP Tryd.prog (sFA 64 v201_153 0) fun v202_154 =>
  xR Tryd.prog (sLoad 3 v202_154) w146 fun v203_155 =>
  xP Tryd.prog (sIA 51 v156_112 (vs116.getD 0 undef)) fun v206_156 =>
  xP Tryd.prog (sFA 64 v206_156 1) fun v207_157 =>
  xR Tryd.prog (sLoad 3 v207_157) w146 fun v208_158 =>
  xP Tryd.prog (sBin .add 3 v203_155 v208_158) fun v209_159 =>
  xP Tryd.prog (sBin .sub 3 v209_159 (.int .i64 1)) fun v210_160 =>
  xE Tryd.prog (sCall 29 #[v28_3]) w146 fun v198_161 w162 =>
  xStill Tryd.prog (sLoad 3 v207_157) v208_158 w162 <|
  xStill Tryd.prog (sLoad 3 v202_154) v203_155 w162 <|
  xP Tryd.prog (sBin .leq 3 v198_161 v210_160) fun v211_163 =>
  xIf v211_163 (
  xE Tryd.prog (sCall 31 #[v28_3]) w162 fun v215_164 w165 =>
  xR Tryd.prog (sEq .eql 3 false v215_164 v74_41) w165 fun v217_166 =>
  xIf v217_166 (
  xE Tryd.prog (sCall 7 #[]) w165 fun v220_167 w168 =>
  R (.returned v220_167) w168) (
  R (.returned (.bool false)) w165)) (
  R (.returned (.bool false)) w162)))))))))))
theorem C_stavelaw17_PlogTrims {a0 : Value} {a1 : Value} {a2 : Value} {a3 : Value} {w : World} {R : Ending → World → Prop} (h : S_stavelaw17_PlogTrims a0 a1 a2 a3 w R) : Calls Tryd.prog 12 #[a0, a1, a2, a3] w R :=
  funcVC_sound (an := A_stavelaw17_PlogTrims) (args := [a0, a1, a2, a3]) (k := 4) Tryd.func12 (by kernel_rfl) rfl
    (Eq.mp (show S_stavelaw17_PlogTrims a0 a1 a2 a3 w R = funcVC Tryd.prog Tryd.f12 A_stavelaw17_PlogTrims [a0, a1, a2, a3] w R by kernel_rfl) h)

/-- stave/stavelaw17.PlogPlays -/
def A_stavelaw17_PlogPlays : Ann := (.seq .nil (.seq .nil (.seq .nil (.seq (.join [43] .nil .nil) (.seq (.seq .nil (.one (.loop [9] (.seq (.join [55] .nil .nil) (.seq (.one (.seq .nil (.seq .nil (.join [11] (.join [71] .nil (.seq (.draw (.pre [0, 1, 2, 3, 4, 5, 6, 7, 8] .nil) [0, 1, 3, 7, 0, 16, 48, 127, 255]) .nil)) (.join [11] (.join [92] .nil .nil) (.seq .nil (.join [12] (.seq .nil (.one (.seq .nil (.seq .nil (.seq .nil (.seq .nil (.seq .nil (.seq .nil (.seq .nil (.seq .nil (.seq .nil (.seq .nil (.seq .nil (.seq (.seq .nil (.join [21] (.seq .nil (.seq .nil (.seq (.draw (.pre [0, 1, 2, 3, 4, 5, 6, 7, 8, 9, 10, 11, 12, 13] .nil) [0, 1, 3, 7, 0, 16, 48, 112, 0, 496, 1008, 2032, 4095, 8191]) .nil))) .nil)) .nil)))))))))))))) (.join [248] (.draw (.pre [0, 1, 2, 3, 5, 6, 7, 8, 4, 9, 10, 11, 12, 14, 15, 16, 17, 13, 18, 19, 20, 21, 23, 24, 25, 26, 27, 22, 28, 29] .nil) [0, 1, 3, 7, 15, 7, 39, 103, 231, 511, 1023, 2047, 4095, 8191, 4095, 20479, 53247, 118783, 262143, 524287, 1048575, 2097151, 4194303, 2097151, 10485759, 27262975, 60817407, 127926271, 268435455, 536870911]) .nil)))))))) .nil))))) .nil)))))
def S_stavelaw17_PlogPlays (a0 : Value) (a1 : Value) (w : World) (R : Ending → World → Prop) : Prop :=
  xE Tryd.prog (sCall 23 #[a0]) w fun v25_1 w2 =>
  xP Tryd.prog (sExtract v25_1 0) fun v26_3 =>
  xP Tryd.prog (sExtract v25_1 1) fun v27_4 =>
  xE Tryd.prog (sCall 36 #[a0]) w2 fun v30_5 w6 =>
  xP Tryd.prog (sExtract v30_5 0) fun v31_7 =>
  xP Tryd.prog (sExtract v30_5 1) fun v32_8 =>
  xJoin (fun J9 =>
    xR Tryd.prog (sEq .eql 46 true v26_3 (.pointer none)) w6 fun v34_10 =>
    xR Tryd.prog (sEq .eql 71 true v31_7 (.pointer none)) w6 fun v36_11 =>
    xR Tryd.prog (sEq .neq 4 false v34_10 v36_11) w6 fun v37_12 =>
    xIf v37_12 (
    J9 [(.bool true)] w6) (
    xE Tryd.prog (sCall 17 #[v27_4]) w6 fun v40_13 w14 =>
    xR Tryd.prog (sEq .neq 3 false v40_13 v32_8) w14 fun v42_15 =>
    J9 [v42_15] w14)) fun vs16 _ w18 =>
  xIf (vs16.getD 0 undef) (
    R (.returned (.bool false)) w18) (
    xLoop [(.int .i64 0)] w18 fun J19 vs20 _ w22 =>
    xJoin (fun J23 =>
      xP Tryd.prog (sB .len #[65] #[a1]) fun v46_24 =>
      xP Tryd.prog (sBin .lss 3 (vs20.getD 0 undef) v46_24) fun v47_25 =>
      xIf v47_25 (
      xP Tryd.prog (sBin .lss 3 (vs20.getD 0 undef) (.int .i64 50)) fun v50_26 =>
      xIf v50_26 (
      xR Tryd.prog (sEq .neq 46 true v26_3 (.pointer none)) w22 fun v54_27 =>
      J23 [v54_27] w22) (
      J23 [(.bool false)] w22)) (
      J23 [(.bool false)] w22)) fun vs28 _ w30 =>
    xIf (vs28.getD 0 undef) (
      xP Tryd.prog (sIA 65 a1 (vs20.getD 0 undef)) fun v60_31 =>
    xR Tryd.prog (sLoad 67 v60_31) w30 fun v61_32 =>
    xE Tryd.prog (sAlloc 67) w30 fun v10_33 w34 =>
    xE Tryd.prog (sStore 67 v10_33 v61_32) w34 fun _ w35 =>
    xP Tryd.prog (sFA 67 v10_33 1) fun v62_36 =>
    xR Tryd.prog (sLoad 3 v62_36) w35 fun v63_37 =>
    xJoin (fun J38 =>
      xJoin (fun J39 =>
        xP Tryd.prog (sFA 67 v10_33 3) fun v64_40 =>
        xR Tryd.prog (sLoad 4 v64_40) w35 fun v65_41 =>
        xP Tryd.prog (sUn .not v65_41) fun v66_42 =>
        xIf v66_42 (
        xP Tryd.prog (sFA 67 v10_33 0) fun v68_43 =>
        xR Tryd.prog (sLoad 3 v68_43) w35 fun v69_44 =>
        xP Tryd.prog (sBin .gtr 3 v69_44 (.int .i64 1)) fun v70_45 =>
        J39 [v70_45] w35) (
        J39 [(.bool false)] w35)) fun vs46 _ w48 =>
      xIf (vs46.getD 0 undef) (
        xP Tryd.prog (sNil v31_7) fun v73_49 =>
        xP Tryd.prog (sFA 75 v73_49 2) fun v74_50 =>
        xR Tryd.prog (sLoad 3 v74_50) (w48.drew) fun v75_51 =>
        xP Tryd.prog (sFA 67 v10_33 1) fun v76_52 =>
        xR Tryd.prog (sLoad 3 v76_52) (w48.drew) fun v77_53 =>
        xE Tryd.prog (sCall 21 #[v77_53, (.int .i64 0), (.int .i64 20)]) (w48.drew) fun v78_54 w55 =>
        xStill Tryd.prog (sLoad 3 v74_50) v75_51 w55 <|
        xP Tryd.prog (sBin .sub 3 v75_51 v78_54) fun v79_56 =>
        J38 [v79_56] w55) (
        J38 [v63_37] w48)) fun vs57 _ w59 =>
    xJoin (fun J60 =>
      xJoin (fun J61 =>
        xP Tryd.prog (sFA 67 v10_33 3) fun v80_62 =>
        xR Tryd.prog (sLoad 4 v80_62) w59 fun v81_63 =>
        xP Tryd.prog (sUn .not v81_63) fun v82_64 =>
        xIf v82_64 (
        xP Tryd.prog (sFA 67 v10_33 0) fun v84_65 =>
        xR Tryd.prog (sLoad 3 v84_65) w59 fun v85_66 =>
        xR Tryd.prog (sEq .neq 3 true v85_66 (.int .i64 2)) w59 fun v86_67 =>
        xIf v86_67 (
        xP Tryd.prog (sFA 67 v10_33 0) fun v89_68 =>
        xR Tryd.prog (sLoad 3 v89_68) w59 fun v90_69 =>
        xR Tryd.prog (sEq .neq 3 true v90_69 (.int .i64 3)) w59 fun v91_70 =>
        J61 [v91_70] w59) (
        J61 [(.bool false)] w59)) (
        J61 [(.bool false)] w59)) fun vs71 _ w73 =>
      xIf (vs71.getD 0 undef) (
        xP Tryd.prog (sFA 67 v10_33 1) fun v93_74 =>
        xR Tryd.prog (sLoad 3 v93_74) w73 fun v94_75 =>
        xE Tryd.prog (sCall 21 #[v94_75, (.int .i64 1), (.int .i64 8)]) w73 fun v95_76 w77 =>
        J60 [v95_76] w77) (
        J60 [(vs57.getD 0 undef)] w73)) fun vs78 _ w80 =>
    xJoin (fun J81 =>
      xP Tryd.prog (sFA 67 v10_33 0) fun v96_82 =>
      xR Tryd.prog (sLoad 3 v96_82) w80 fun v97_83 =>
      xR Tryd.prog (sEq .eql 3 true v97_83 (.int .i64 1)) w80 fun v99_84 =>
      xIf v99_84 (
        xP Tryd.prog (sFA 67 v10_33 2) fun v103_85 =>
        xR Tryd.prog (sLoad 3 v103_85) w80 fun v104_86 =>
        xP Tryd.prog (sBin .rem 3 (vs20.getD 0 undef) (.int .i64 3)) fun v107_87 =>
        xE Tryd.prog (sCall 24 #[v26_3, (vs78.getD 0 undef), v104_86, (vs20.getD 0 undef), v107_87]) w80 fun v108_88 w89 =>
        xP Tryd.prog (sExtract v108_88 0) fun v109_90 =>
        xP Tryd.prog (sExtract v108_88 1) fun v110_91 =>
        xP Tryd.prog (sFA 67 v10_33 2) fun v114_92 =>
        xR Tryd.prog (sLoad 3 v114_92) w89 fun v115_93 =>
        xP Tryd.prog (sBin .rem 3 (vs20.getD 0 undef) (.int .i64 3)) fun v118_94 =>
        xE Tryd.prog (sCall 37 #[v31_7, (vs78.getD 0 undef), v115_93, (vs20.getD 0 undef), v118_94]) w89 fun v119_95 w96 =>
        xP Tryd.prog (sExtract v119_95 0) fun v120_97 =>
        xP Tryd.prog (sExtract v119_95 1) fun v121_98 =>
        xR Tryd.prog (sEq .eql 3 false v109_90 v120_97) w96 fun v124_99 =>
        xIf v124_99 (
        xE Tryd.prog (sCall 17 #[v110_91]) w96 fun v127_100 w101 =>
        xR Tryd.prog (sEq .eql 3 false v127_100 v121_98) w101 fun v129_102 =>
        J81 [v129_102] w101) (
        J81 [(.bool false)] w96)) (
        xR Tryd.prog (sEq .eql 3 true v97_83 (.int .i64 2)) w80 fun v132_103 =>
        xIf v132_103 (
          xE Tryd.prog (sCall 25 #[v26_3, (vs78.getD 0 undef)]) w80 fun v136_104 w105 =>
          xP Tryd.prog (sExtract v136_104 0) fun v137_106 =>
          xP Tryd.prog (sExtract v136_104 1) fun v138_107 =>
          xE Tryd.prog (sCall 38 #[v31_7, (vs78.getD 0 undef)]) w105 fun v142_108 w109 =>
          xP Tryd.prog (sExtract v142_108 0) fun v143_110 =>
          xP Tryd.prog (sExtract v142_108 1) fun v144_111 =>
          xE Tryd.prog (sCall 35 #[v137_106, v143_110]) w109 fun v147_112 w113 =>
          xIf v147_112 (
          xE Tryd.prog (sCall 17 #[v138_107]) w113 fun v150_114 w115 =>
          xR Tryd.prog (sEq .eql 3 false v150_114 v144_111) w115 fun v152_116 =>
          J81 [v152_116] w115) (
          J81 [(.bool false)] w113)) (
          xR Tryd.prog (sEq .eql 3 true v97_83 (.int .i64 3)) w80 fun v155_117 =>
          xIf v155_117 (
            xE Tryd.prog (sCall 26 #[v26_3, (vs78.getD 0 undef)]) w80 fun v158_118 w119 =>
            xE Tryd.prog (sCall 17 #[v158_118]) w119 fun v159_120 w121 =>
            xE Tryd.prog (sCall 39 #[v31_7, (vs78.getD 0 undef)]) w121 fun v162_122 w123 =>
            xR Tryd.prog (sEq .eql 3 false v159_120 v162_122) w123 fun v163_124 =>
            J81 [v163_124] w123) (
            xR Tryd.prog (sEq .eql 3 true v97_83 (.int .i64 4)) w80 fun v165_125 =>
            xIf v165_125 (
              xE Tryd.prog (sCall 33 #[v26_3, (vs78.getD 0 undef)]) w80 fun v168_126 w127 =>
              xE Tryd.prog (sCall 40 #[v31_7, (vs78.getD 0 undef)]) w127 fun v171_128 w129 =>
              xR Tryd.prog (sEq .eql 3 false v168_126 v171_128) w129 fun v172_130 =>
              J81 [v172_130] w129) (
              xR Tryd.prog (sEq .eql 3 true v97_83 (.int .i64 5)) w80 fun v174_131 =>
              xIf v174_131 (
                xE Tryd.prog (sCall 34 #[v26_3, (vs78.getD 0 undef)]) w80 fun v177_132 w133 =>
                xE Tryd.prog (sCall 41 #[v31_7, (vs78.getD 0 undef)]) w133 fun v180_134 w135 =>
                xR Tryd.prog (sEq .eql 3 false v177_132 v180_134) w135 fun v181_136 =>
                J81 [v181_136] w135) (
                xR Tryd.prog (sEq .eql 3 true v97_83 (.int .i64 6)) w80 fun v183_137 =>
                xIf v183_137 (
                  xP Tryd.prog (sNil v31_7) fun v185_138 =>
                  xP Tryd.prog (sFA 75 v185_138 2) fun v186_139 =>
                  xR Tryd.prog (sLoad 3 v186_139) w80 fun v187_140 =>
                  xJoin (fun J141 =>
                    xP Tryd.prog (sNil v31_7) fun v189_142 =>
                    xP Tryd.prog (sFA 75 v189_142 0) fun v190_143 =>
                    xR Tryd.prog (sLoad 51 v190_143) w80 fun v191_144 =>
                    xE Tryd.prog (sCall 42 #[v191_144, (vs78.getD 0 undef)]) w80 fun v193_145 w146 =>
                    xP Tryd.prog (sNil v31_7) fun v196_147 =>
                    xP Tryd.prog (sFA 75 v196_147 0) fun v197_148 =>
                    xR Tryd.prog (sLoad 51 v197_148) w146 fun v198_149 =>
                    xP Tryd.prog (sB .len #[51] #[v198_149]) fun v199_150 =>
                    xP Tryd.prog (sBin .lss 3 v193_145 v199_150) fun v200_151 =>
                    xIf v200_151 (
                      xP Tryd.prog (sNil v31_7) fun v202_152 =>
                      xP Tryd.prog (sFA 75 v202_152 1) fun v203_153 =>
                      xR Tryd.prog (sLoad 3 v203_153) (w146.drew) fun v204_154 =>
                      xP Tryd.prog (sNil v31_7) fun v206_155 =>
                      xP Tryd.prog (sFA 75 v206_155 0) fun v207_156 =>
                      xR Tryd.prog (sLoad 51 v207_156) (w146.drew) fun v208_157 =>
                      xP Tryd.prog (sIA 51 v208_157 v193_145) fun v210_158 =>
                      xP Tryd.prog (sFA 64 v210_158 0) fun v211_159 =>
                      xR Tryd.prog (sLoad 3 v211_159) (w146.drew) fun v212_160 =>
                      xP Tryd.prog (sB .max #[3, 3] #[v204_154, v212_160]) fun v213_161 =>
                      J141 [v213_161] (w146.drew)) (
                      J141 [v187_140] w146)) fun vs162 _ w164 =>
                  xE Tryd.prog (sCall 32 #[v26_3, (vs78.getD 0 undef)]) w164 fun v216_165 w166 =>
                  xR Tryd.prog (sEq .eql 3 false v216_165 (vs162.getD 0 undef)) w166 fun v218_167 =>
                  J81 [v218_167] w166) (
                  J81 [(.bool true)] w80))))))) fun vs168 _ w170 =>
    xJoin (fun J171 =>
      xP Tryd.prog (sUn .not (vs168.getD 0 undef)) fun v220_172 =>
      xIf v220_172 (
      J171 [(.bool true)] (w170.drew)) (
      xP Tryd.prog (sNil v31_7) fun v225_173 =>
      xP Tryd.prog (sFA 75 v225_173 1) fun v226_174 =>
      xR Tryd.prog (sLoad 3 v226_174) (w170.drew) fun v227_175 =>
      xE Tryd.prog (sCall 29 #[v26_3]) (w170.drew) fun v223_176 w177 =>
      xStill Tryd.prog (sLoad 3 v226_174) v227_175 w177 <|
      xR Tryd.prog (sEq .neq 3 false v223_176 v227_175) w177 fun v228_178 =>
      xIf v228_178 (
      J171 [(.bool true)] w177) (
      xP Tryd.prog (sNil v31_7) fun v234_179 =>
      xP Tryd.prog (sFA 75 v234_179 2) fun v235_180 =>
      xR Tryd.prog (sLoad 3 v235_180) w177 fun v236_181 =>
      xE Tryd.prog (sCall 31 #[v26_3]) w177 fun v232_182 w183 =>
      xStill Tryd.prog (sLoad 3 v235_180) v236_181 w183 <|
      xR Tryd.prog (sEq .neq 3 false v232_182 v236_181) w183 fun v237_184 =>
      xIf v237_184 (
      J171 [(.bool true)] w183) (
      xP Tryd.prog (sNil v31_7) fun v243_185 =>
      xP Tryd.prog (sFA 75 v243_185 0) fun v244_186 =>
      xR Tryd.prog (sLoad 51 v244_186) w183 fun v245_187 =>
      xP Tryd.prog (sB .len #[51] #[v245_187]) fun v246_188 =>
      xE Tryd.prog (sCall 30 #[v26_3]) w183 fun v241_189 w190 =>
      xStill Tryd.prog (sLoad 51 v244_186) v245_187 w190 <|
      xR Tryd.prog (sEq .neq 3 false v241_189 v246_188) w190 fun v247_191 =>
      J171 [v247_191] w190)))) fun vs192 _ w194 =>
    xIf (vs192.getD 0 undef) (
      R (.returned (.bool false)) w194) (
      xP Tryd.prog (sBin .add 3 (vs20.getD 0 undef) (.int .i64 1)) fun v57_195 =>
    J19 [v57_195] w194)) (
      xE Tryd.prog (sCall 7 #[]) w30 fun v249_196 w197 =>
  R (.returned v249_196) w197))
theorem C_stavelaw17_PlogPlays {a0 : Value} {a1 : Value} {w : World} {R : Ending → World → Prop} (h : S_stavelaw17_PlogPlays a0 a1 w R) : Calls Tryd.prog 13 #[a0, a1] w R :=
  funcVC_sound (an := A_stavelaw17_PlogPlays) (args := [a0, a1]) (k := 2) Tryd.func13 (by kernel_rfl) rfl
    (Eq.mp (show S_stavelaw17_PlogPlays a0 a1 w R = funcVC Tryd.prog Tryd.f13 A_stavelaw17_PlogPlays [a0, a1] w R by kernel_rfl) h)

/-- stave/fault.Wrap -/
def A_fault_Wrap : Ann := .nil
def S_fault_Wrap (a0 : Value) (a1 : Value) (a2 : Value) (w : World) (R : Ending → World → Prop) : Prop :=
  xR Tryd.prog (sEq .eql 23 true a2 (.nilIface)) w fun v8_1 =>
  xIf v8_1 (
    R (.returned (.nilIface)) w) (
    xP Tryd.prog (sBuild 82 #[(0, a0), (1, a1), (2, a2)]) fun v12_2 =>
  xP Tryd.prog (sIface 82 v12_2) fun v13_3 =>
  R (.returned v13_3) w)
theorem C_fault_Wrap {a0 : Value} {a1 : Value} {a2 : Value} {w : World} {R : Ending → World → Prop} (h : S_fault_Wrap a0 a1 a2 w R) : Calls Tryd.prog 14 #[a0, a1, a2] w R :=
  funcVC_sound (an := A_fault_Wrap) (args := [a0, a1, a2]) (k := 3) Tryd.func14 (by kernel_rfl) rfl
    (Eq.mp (show S_fault_Wrap a0 a1 a2 w R = funcVC Tryd.prog Tryd.f14 A_fault_Wrap [a0, a1, a2] w R by kernel_rfl) h)

/-- stave/fault.Where -/
def A_fault_Where : Ann := (.seq .nil (.seq .nil (.seq .nil (.seq .nil (.seq (.draw (.pre [0, 1, 2, 3, 4, 5, 6] .nil) [0, 1, 0, 4, 3, 31, 63]) .nil)))))
def S_fault_Where (a0 : Value) (w : World) (R : Ending → World → Prop) : Prop :=
  xE Tryd.prog (sCall 43 #[a0]) w fun v8_1 w2 =>
  xP Tryd.prog (sB .len #[83] #[v8_1]) fun v10_3 =>
  xR Tryd.prog (sEq .eql 3 true v10_3 (.int .i64 0)) w2 fun v11_4 =>
  xIf v11_4 (
    R (.returned (.tuple #[(.string (ByteArray.mk #[])), (.int .i64 0), (.bool false)])) w2) (
    xP Tryd.prog (sB .len #[83] #[v8_1]) fun v14_5 =>
  xP Tryd.prog (sBin .sub 3 v14_5 (.int .i64 1)) fun v15_6 =>
  xP Tryd.prog (sIA 83 v8_1 v15_6) fun v16_7 =>
  xR Tryd.prog (sLoad 82 v16_7) w2 fun v17_8 =>
  xE Tryd.prog (sAlloc 82) w2 fun v6_9 w10 =>
  xE Tryd.prog (sStore 82 v6_9 v17_8) w10 fun _ w11 =>
  xP Tryd.prog (sFA 82 v6_9 0) fun v18_12 =>
  xR Tryd.prog (sLoad 9 v18_12) (w11.drew) fun v19_13 =>
  xP Tryd.prog (sFA 82 v6_9 1) fun v20_14 =>
  xR Tryd.prog (sLoad 3 v20_14) (w11.drew) fun v21_15 =>
  R (.returned (.tuple #[v19_13, v21_15, (.bool true)])) (w11.drew))
theorem C_fault_Where {a0 : Value} {w : World} {R : Ending → World → Prop} (h : S_fault_Where a0 w R) : Calls Tryd.prog 15 #[a0] w R :=
  funcVC_sound (an := A_fault_Where) (args := [a0]) (k := 1) Tryd.func15 (by kernel_rfl) rfl
    (Eq.mp (show S_fault_Where a0 w R = funcVC Tryd.prog Tryd.f15 A_fault_Where [a0] w R by kernel_rfl) h)

/-- stave/fault.Lost -/
def A_fault_Lost : Ann := .nil
def S_fault_Lost (a0 : Value) (w : World) (R : Ending → World → Prop) : Prop :=
  xE Tryd.prog (sAlloc 29) w fun v2_1 w2 =>
  xE Tryd.prog (sAlloc 29) w2 fun v4_3 w4 =>
  xP Tryd.prog (sIface 86 v4_3) fun v6_5 =>
  xE Tryd.prog (sCall 44 #[a0, v6_5]) w4 fun v7_6 w7 =>
  xP Tryd.prog (sUn .not v7_6) fun v8_8 =>
  xIf v8_8 (
    xP Tryd.prog (sBuild 29 #[]) fun v9_9 =>
    xE Tryd.prog (sStore 29 v2_1 v9_9) w7 fun _ w10 =>
    xR Tryd.prog (sLoad 29 v2_1) w10 fun r11 => R (.returned (.tuple #[r11, (.bool false)])) w10) (
    xR Tryd.prog (sLoad 29 v4_3) w7 fun v10_12 =>
  xE Tryd.prog (sStore 29 v2_1 v10_12) w7 fun _ w13 =>
  xR Tryd.prog (sLoad 29 v2_1) w13 fun r14 => R (.returned (.tuple #[r14, (.bool true)])) w13)
theorem C_fault_Lost {a0 : Value} {w : World} {R : Ending → World → Prop} (h : S_fault_Lost a0 w R) : Calls Tryd.prog 16 #[a0] w R :=
  funcVC_sound (an := A_fault_Lost) (args := [a0]) (k := 1) Tryd.func16 (by kernel_rfl) rfl
    (Eq.mp (show S_fault_Lost a0 w R = funcVC Tryd.prog Tryd.f16 A_fault_Lost [a0] w R by kernel_rfl) h)

/-- stave/fault.Kind -/
def A_fault_Kind : Ann := .nil
def S_fault_Kind (a0 : Value) (w : World) (R : Ending → World → Prop) : Prop :=
  xE Tryd.prog (sAlloc 25) w fun v3_1 w2 =>
  xP Tryd.prog (sIface 87 v3_1) fun v6_3 =>
  xE Tryd.prog (sCall 44 #[a0, v6_3]) w2 fun v7_4 w5 =>
  xIf v7_4 (
    xR Tryd.prog (sLoad 25 v3_1) w5 fun v8_6 =>
    R (.returned v8_6) w5) (
    xP Tryd.prog (sIface 25 (.int .i64 6)) fun v11_7 =>
    xE Tryd.prog (sCall 22 #[a0, v11_7]) w5 fun v12_8 w9 =>
    xIf v12_8 (
      R (.returned (.int .i64 6)) w9) (
      R (.returned (.int .i64 0)) w9))
theorem C_fault_Kind {a0 : Value} {w : World} {R : Ending → World → Prop} (h : S_fault_Kind a0 w R) : Calls Tryd.prog 17 #[a0] w R :=
  funcVC_sound (an := A_fault_Kind) (args := [a0]) (k := 1) Tryd.func17 (by kernel_rfl) rfl
    (Eq.mp (show S_fault_Kind a0 w R = funcVC Tryd.prog Tryd.f17 A_fault_Kind [a0] w R by kernel_rfl) h)

/-- stave/stavebook.Same[string] -/
def A_stavebook_Same_string : Ann := (.seq .nil (.seq .nil (.seq (.seq .nil (.one (.loop [5] (.seq .nil (.seq (.one (.seq (.draw (.pre [0, 1, 2, 3, 4, 5, 6, 7, 8] .nil) [0, 0, 3, 7, 0, 0, 48, 112, 255]) .nil)) .nil))))) .nil)))
def S_stavebook_Same_string (a0 : Value) (a1 : Value) (w : World) (R : Ending → World → Prop) : Prop :=
  xP Tryd.prog (sB .len #[34] #[a0]) fun v7_1 =>
  xP Tryd.prog (sB .len #[34] #[a1]) fun v9_2 =>
  xR Tryd.prog (sEq .neq 3 false v7_1 v9_2) w fun v10_3 =>
  xIf v10_3 (
    R (.returned (.bool false)) w) (
    xLoop [(.int .i64 0)] w fun J4 vs5 _ w7 =>
    xP Tryd.prog (sB .len #[34] #[a0]) fun v13_8 =>
    xP Tryd.prog (sBin .lss 3 (vs5.getD 0 undef) v13_8) fun v14_9 =>
    xIf v14_9 (
      xP Tryd.prog (sIA 34 a0 (vs5.getD 0 undef)) fun v19_10 =>
    xR Tryd.prog (sLoad 9 v19_10) (w7.drew) fun v20_11 =>
    xP Tryd.prog (sIA 34 a1 (vs5.getD 0 undef)) fun v23_12 =>
    xR Tryd.prog (sLoad 9 v23_12) (w7.drew) fun v24_13 =>
    xR Tryd.prog (sEq .neq 9 false v20_11 v24_13) (w7.drew) fun v25_14 =>
    xIf v25_14 (
      R (.returned (.bool false)) (w7.drew)) (
      xP Tryd.prog (sBin .add 3 (vs5.getD 0 undef) (.int .i64 1)) fun v16_15 =>
    J4 [v16_15] (w7.drew))) (
      R (.returned (.bool true)) w7))
theorem C_stavebook_Same_string {a0 : Value} {a1 : Value} {w : World} {R : Ending → World → Prop} (h : S_stavebook_Same_string a0 a1 w R) : Calls Tryd.prog 18 #[a0, a1] w R :=
  funcVC_sound (an := A_stavebook_Same_string) (args := [a0, a1]) (k := 2) Tryd.func18 (by kernel_rfl) rfl
    (Eq.mp (show S_stavebook_Same_string a0 a1 w R = funcVC Tryd.prog Tryd.f18 A_stavebook_Same_string [a0, a1] w R by kernel_rfl) h)

/-- stave/fault.Path -/
def A_fault_Path : Ann := (.seq .nil (.seq .nil (.seq (.seq .nil (.one (.loop [3, 9] .nil))) .nil)))
def S_fault_Path (a0 : Value) (w : World) (R : Ending → World → Prop) : Prop :=
  xE Tryd.prog (sCall 43 #[a0]) w fun v7_1 w2 =>
  xP Tryd.prog (sB .len #[83] #[v7_1]) fun v8_3 =>
  xLoop [(.slice none 0 0), (.int .i64 0)] w2 fun J4 vs5 _ w7 =>
    xP Tryd.prog (sBin .lss 3 (vs5.getD 1 undef) v8_3) fun v10_8 =>
    xIf v10_8 (
      xP Tryd.prog (sIA 83 v7_1 (vs5.getD 1 undef)) fun v11_9 =>
    xR Tryd.prog (sLoad 82 v11_9) w7 fun v12_10 =>
    xE Tryd.prog (sAlloc 82) w7 fun v5_11 w12 =>
    xE Tryd.prog (sStore 82 v5_11 v12_10) w12 fun _ w13 =>
    xP Tryd.prog (sFA 82 v5_11 0) fun v14_14 =>
    xR Tryd.prog (sLoad 9 v14_14) w13 fun v15_15 =>
    xE Tryd.prog (sBuildSlice 34 1 #[(0, v15_15)]) w13 fun v16_16 w17 =>
    xE Tryd.prog (sB .append #[34, 34] #[(vs5.getD 0 undef), v16_16]) w17 fun v17_18 w19 =>
    xP Tryd.prog (sBin .add 3 (vs5.getD 1 undef) (.int .i64 1)) fun v18_20 =>
    J4 [v17_18, v18_20] w19) (
      R (.returned (vs5.getD 0 undef)) w7)
theorem C_fault_Path {a0 : Value} {w : World} {R : Ending → World → Prop} (h : S_fault_Path a0 w R) : Calls Tryd.prog 19 #[a0] w R :=
  funcVC_sound (an := A_fault_Path) (args := [a0]) (k := 1) Tryd.func19 (by kernel_rfl) rfl
    (Eq.mp (show S_fault_Path a0 w R = funcVC Tryd.prog Tryd.f19 A_fault_Path [a0] w R by kernel_rfl) h)

/-- stave/fault.First -/
def A_fault_First : Ann := (.seq .nil (.seq (.seq .nil (.one (.loop [9] .nil))) .nil))
def S_fault_First (a0 : Value) (a1 : Value) (w : World) (R : Ending → World → Prop) : Prop :=
  xP Tryd.prog (sB .len #[88] #[a1]) fun v8_1 =>
  xLoop [(.int .i64 0)] w fun J2 vs3 _ w5 =>
    xP Tryd.prog (sBin .lss 3 (vs3.getD 0 undef) v8_1) fun v10_6 =>
    xIf v10_6 (
      xP Tryd.prog (sIA 88 a1 (vs3.getD 0 undef)) fun v12_7 =>
    xR Tryd.prog (sLoad 25 v12_7) w5 fun v13_8 =>
    xP Tryd.prog (sIface 25 v13_8) fun v16_9 =>
    xE Tryd.prog (sCall 22 #[a0, v16_9]) w5 fun v17_10 w11 =>
    xIf v17_10 (
      R (.returned (vs3.getD 0 undef)) w11) (
      xP Tryd.prog (sBin .add 3 (vs3.getD 0 undef) (.int .i64 1)) fun v19_12 =>
    J2 [v19_12] w11)) (
      R (.returned (.int .i64 (-1))) w5)
theorem C_fault_First {a0 : Value} {a1 : Value} {w : World} {R : Ending → World → Prop} (h : S_fault_First a0 a1 w R) : Calls Tryd.prog 20 #[a0, a1] w R :=
  funcVC_sound (an := A_fault_First) (args := [a0, a1]) (k := 2) Tryd.func20 (by kernel_rfl) rfl
    (Eq.mp (show S_fault_First a0 a1 w R = funcVC Tryd.prog Tryd.f20 A_fault_First [a0, a1] w R by kernel_rfl) h)

/-- stave/stavebook.Within -/
def A_stavebook_Within : Ann := (.seq .nil (.seq .nil (.join [0] .nil .nil)))
def S_stavebook_Within (a0 : Value) (a1 : Value) (a2 : Value) (w : World) (R : Ending → World → Prop) : Prop :=
  xP Tryd.prog (sBin .sub 3 a2 a1) fun v10_1 =>
  xP Tryd.prog (sBin .add 3 v10_1 (.int .i64 1)) fun v11_2 =>
  xP Tryd.prog (sBin .rem 3 a0 v11_2) fun v12_3 =>
  xJoin (fun J4 =>
    xP Tryd.prog (sBin .lss 3 v12_3 (.int .i64 0)) fun v14_5 =>
    xIf v14_5 (
      xP Tryd.prog (sBin .add 3 v12_3 a2) fun v17_6 =>
      xP Tryd.prog (sBin .sub 3 v17_6 a1) fun v19_7 =>
      xP Tryd.prog (sBin .add 3 v19_7 (.int .i64 1)) fun v20_8 =>
      J4 [v20_8] w) (
      J4 [v12_3] w)) fun vs9 _ w11 =>
  xP Tryd.prog (sBin .add 3 a1 (vs9.getD 0 undef)) fun v23_12 =>
  R (.returned v23_12) w11
theorem C_stavebook_Within {a0 : Value} {a1 : Value} {a2 : Value} {w : World} {R : Ending → World → Prop} (h : S_stavebook_Within a0 a1 a2 w R) : Calls Tryd.prog 21 #[a0, a1, a2] w R :=
  funcVC_sound (an := A_stavebook_Within) (args := [a0, a1, a2]) (k := 3) Tryd.func21 (by kernel_rfl) rfl
    (Eq.mp (show S_stavebook_Within a0 a1 a2 w R = funcVC Tryd.prog Tryd.f21 A_stavebook_Within [a0, a1, a2] w R by kernel_rfl) h)

/-- errors.Is -/
def A_errors_Is : Ann := (.seq .nil (.seq (.join [11] .nil .nil) .nil))
def S_errors_Is (a0 : Value) (a1 : Value) (w : World) (R : Ending → World → Prop) : Prop :=
  xJoin (fun J1 =>
    xR Tryd.prog (sEq .eql 23 true a0 (.nilIface)) w fun v7_2 =>
    xIf v7_2 (
    J1 [(.bool true)] w) (
    xR Tryd.prog (sEq .eql 23 true a1 (.nilIface)) w fun v10_3 =>
    J1 [v10_3] w)) fun vs4 _ w6 =>
  xIf (vs4.getD 0 undef) (
    xR Tryd.prog (sEq .eql 23 false a0 a1) w6 fun v14_7 =>
    R (.returned v14_7) w6) (
    xE Tryd.prog (sCall 45 #[a1]) w6 fun v16_8 w9 =>
  xE Tryd.prog (sInvoke "Comparable" #[v16_8]) w9 fun v17_10 w11 =>
  xE Tryd.prog (sCall 46 #[a0, a1, v17_10]) w11 fun v21_12 w13 =>
  R (.returned v21_12) w13)
theorem C_errors_Is {a0 : Value} {a1 : Value} {w : World} {R : Ending → World → Prop} (h : S_errors_Is a0 a1 w R) : Calls Tryd.prog 22 #[a0, a1] w R :=
  funcVC_sound (an := A_errors_Is) (args := [a0, a1]) (k := 2) Tryd.func22 (by kernel_rfl) rfl
    (Eq.mp (show S_errors_Is a0 a1 w R = funcVC Tryd.prog Tryd.f22 A_errors_Is [a0, a1] w R by kernel_rfl) h)

/-- stave/plog.New -/
def A_plog_New : Ann := .nil
def S_plog_New (a0 : Value) (w : World) (R : Ending → World → Prop) : Prop :=
  xP Tryd.prog (sBin .lss 3 a0 (.int .i64 0)) fun v5_1 =>
  xIf v5_1 (
    xP Tryd.prog (sIface 25 (.int .i64 1)) fun v6_2 =>
    xE Tryd.prog (sCall 14 #[(.string (ByteArray.mk #[112, 108, 111, 103, 46, 78, 101, 119])), (.int .i64 0), v6_2]) w fun v7_3 w4 =>
    R (.returned (.tuple #[(.pointer none), v7_3])) w4) (
    xE Tryd.prog (sCall 47 #[(.int .i64 4)]) w fun v8_5 w6 =>
  xP Tryd.prog (sBuild 96 #[(0, v8_5), (1, a0), (2, a0)]) fun v11_7 =>
  xE Tryd.prog (sBox 96 v11_7) w6 fun v12_8 w9 =>
  R (.returned (.tuple #[v12_8, (.nilIface)])) w9)
theorem C_plog_New {a0 : Value} {w : World} {R : Ending → World → Prop} (h : S_plog_New a0 w R) : Calls Tryd.prog 23 #[a0] w R :=
  funcVC_sound (an := A_plog_New) (args := [a0]) (k := 1) Tryd.func23 (by kernel_rfl) rfl
    (Eq.mp (show S_plog_New a0 w R = funcVC Tryd.prog Tryd.f23 A_plog_New [a0] w R by kernel_rfl) h)

/-- (*stave/plog.Log).Add -/
def A_plog_Log_Add : Ann := (.seq .nil (.seq (.join [31] .nil .nil) .nil))
def S_plog_Log_Add (a0 : Value) (a1 : Value) (a2 : Value) (a3 : Value) (a4 : Value) (w : World) (R : Ending → World → Prop) : Prop :=
  xJoin (fun J1 =>
    xP Tryd.prog (sBin .lss 3 a1 (.int .i64 1)) fun v14_2 =>
    xIf v14_2 (
    J1 [(.bool true)] w) (
    xP Tryd.prog (sBin .gtr 3 a1 (.int .i64 8)) fun v17_3 =>
    xIf v17_3 (
    J1 [(.bool true)] w) (
    xE Tryd.prog (sCall 48 #[a2, (.int .i64 1125899906842624)]) w fun v21_4 w5 =>
    xP Tryd.prog (sUn .not v21_4) fun v22_6 =>
    xIf v22_6 (
    J1 [(.bool true)] w5) (
    xP Tryd.prog (sBin .lss 3 a3 (.int .i64 0)) fun v26_7 =>
    xIf v26_7 (
    J1 [(.bool true)] w5) (
    xP Tryd.prog (sBin .lss 3 a4 (.int .i64 0)) fun v30_8 =>
    J1 [v30_8] w5))))) fun vs9 _ w11 =>
  xIf (vs9.getD 0 undef) (
    xP Tryd.prog (sIface 25 (.int .i64 1)) fun v32_12 =>
    xE Tryd.prog (sCall 14 #[(.string (ByteArray.mk #[112, 108, 111, 103, 46, 65, 100, 100])), (.int .i64 0), v32_12]) w11 fun v33_13 w14 =>
    R (.returned (.tuple #[(.int .i64 0), v33_13])) w14) (
    xP Tryd.prog (sNil a0) fun v36_15 =>
  xP Tryd.prog (sFA 96 v36_15 2) fun v37_16 =>
  xR Tryd.prog (sLoad 3 v37_16) w11 fun v38_17 =>
  xP Tryd.prog (sBin .sub 3 (.int .i64 9223372036854775807) v38_17) fun v39_18 =>
  xP Tryd.prog (sBin .gtr 3 a1 v39_18) fun v40_19 =>
  xIf v40_19 (
    xP Tryd.prog (sIface 25 (.int .i64 13)) fun v41_20 =>
    xE Tryd.prog (sCall 14 #[(.string (ByteArray.mk #[112, 108, 111, 103, 46, 65, 100, 100])), (.int .i64 0), v41_20]) w11 fun v42_21 w22 =>
    R (.returned (.tuple #[(.int .i64 0), v42_21])) w22) (
    xP Tryd.prog (sNil a0) fun v44_23 =>
  xP Tryd.prog (sFA 96 v44_23 2) fun v45_24 =>
  xR Tryd.prog (sLoad 3 v45_24) w11 fun v46_25 =>
  xP Tryd.prog (sNil a0) fun v48_26 =>
  xP Tryd.prog (sFA 96 v48_26 0) fun v49_27 =>
  xR Tryd.prog (sLoad 93 v49_27) w11 fun v50_28 =>
  xP Tryd.prog (sBuild 64 #[(0, v46_25), (1, a1), (2, a2), (3, a3), (4, a4)]) fun v56_29 =>
  xE Tryd.prog (sCall 49 #[v50_28, v56_29]) w11 fun _ w31 =>
  xP Tryd.prog (sNil a0) fun v59_32 =>
  xP Tryd.prog (sFA 96 v59_32 2) fun v60_33 =>
  xR Tryd.prog (sLoad 3 v60_33) w31 fun v61_34 =>
  xP Tryd.prog (sBin .add 3 v61_34 a1) fun v63_35 =>
  xP Tryd.prog (sNil a0) fun v64_36 =>
  xP Tryd.prog (sFA 96 v64_36 2) fun v65_37 =>
  xE Tryd.prog (sStore 3 v65_37 v63_35) w31 fun _ w38 =>
  R (.returned (.tuple #[v46_25, (.nilIface)])) w38))
theorem C_plog_Log_Add {a0 : Value} {a1 : Value} {a2 : Value} {a3 : Value} {a4 : Value} {w : World} {R : Ending → World → Prop} (h : S_plog_Log_Add a0 a1 a2 a3 a4 w R) : Calls Tryd.prog 24 #[a0, a1, a2, a3, a4] w R :=
  funcVC_sound (an := A_plog_Log_Add) (args := [a0, a1, a2, a3, a4]) (k := 5) Tryd.func24 (by kernel_rfl) rfl
    (Eq.mp (show S_plog_Log_Add a0 a1 a2 a3 a4 w R = funcVC Tryd.prog Tryd.f24 A_plog_Log_Add [a0, a1, a2, a3, a4] w R by kernel_rfl) h)

/-- (*stave/plog.Log).From -/
def A_plog_Log_From : Ann := (.seq .nil (.seq (.join [21] .nil .nil) (.seq .nil (.seq (.seq .nil (.one (.loop [6, 7] .nil))) .nil))))
def S_plog_Log_From (a0 : Value) (a1 : Value) (w : World) (R : Ending → World → Prop) : Prop :=
  xJoin (fun J1 =>
    xP Tryd.prog (sNil a0) fun v10_2 =>
    xP Tryd.prog (sFA 96 v10_2 1) fun v11_3 =>
    xR Tryd.prog (sLoad 3 v11_3) w fun v12_4 =>
    xP Tryd.prog (sBin .lss 3 a1 v12_4) fun v13_5 =>
    xIf v13_5 (
    J1 [(.bool true)] w) (
    xP Tryd.prog (sNil a0) fun v17_6 =>
    xP Tryd.prog (sFA 96 v17_6 2) fun v18_7 =>
    xR Tryd.prog (sLoad 3 v18_7) w fun v19_8 =>
    xP Tryd.prog (sBin .gtr 3 a1 v19_8) fun v20_9 =>
    J1 [v20_9] w)) fun vs10 _ w12 =>
  xIf (vs10.getD 0 undef) (
    xP Tryd.prog (sIface 25 (.int .i64 13)) fun v22_13 =>
    xE Tryd.prog (sCall 14 #[(.string (ByteArray.mk #[112, 108, 111, 103, 46, 70, 114, 111, 109])), (.int .i64 0), v22_13]) w12 fun v23_14 w15 =>
    R (.returned (.tuple #[(.slice none 0 0), v23_14])) w15) (
    xP Tryd.prog (sNil a0) fun v25_16 =>
  xP Tryd.prog (sFA 96 v25_16 0) fun v26_17 =>
  xR Tryd.prog (sLoad 93 v26_17) w12 fun v27_18 =>
  xE Tryd.prog (sCall 50 #[v27_18, a1]) w12 fun v29_19 w20 =>
  xLoop [(.slice none 0 0), v29_19] w20 fun J21 vs22 _ w24 =>
    xP Tryd.prog (sNil a0) fun v32_25 =>
    xP Tryd.prog (sFA 96 v32_25 0) fun v33_26 =>
    xR Tryd.prog (sLoad 93 v33_26) w24 fun v34_27 =>
    xE Tryd.prog (sCall 51 #[v34_27]) w24 fun v35_28 w29 =>
    xP Tryd.prog (sBin .lss 3 (vs22.getD 1 undef) v35_28) fun v36_30 =>
    xIf v36_30 (
      xP Tryd.prog (sNil a0) fun v41_31 =>
    xP Tryd.prog (sFA 96 v41_31 0) fun v42_32 =>
    xR Tryd.prog (sLoad 93 v42_32) w29 fun v43_33 =>
    xE Tryd.prog (sCall 52 #[v43_33, (vs22.getD 1 undef)]) w29 fun v45_34 w35 =>
    xE Tryd.prog (sBuildSlice 51 1 #[(0, v45_34)]) w35 fun v46_36 w37 =>
    xE Tryd.prog (sB .append #[51, 51] #[(vs22.getD 0 undef), v46_36]) w37 fun v47_38 w39 =>
    xP Tryd.prog (sBin .add 3 (vs22.getD 1 undef) (.int .i64 1)) fun v38_40 =>
    J21 [v47_38, v38_40] w39) (
      R (.returned (.tuple #[(vs22.getD 0 undef), (.nilIface)])) w29))
theorem C_plog_Log_From {a0 : Value} {a1 : Value} {w : World} {R : Ending → World → Prop} (h : S_plog_Log_From a0 a1 w R) : Calls Tryd.prog 25 #[a0, a1] w R :=
  funcVC_sound (an := A_plog_Log_From) (args := [a0, a1]) (k := 2) Tryd.func25 (by kernel_rfl) rfl
    (Eq.mp (show S_plog_Log_From a0 a1 w R = funcVC Tryd.prog Tryd.f25 A_plog_Log_From [a0, a1] w R by kernel_rfl) h)

/-- (*stave/plog.Log).Trim -/
def A_plog_Log_Trim : Ann := (.seq .nil (.seq .nil (.join [] (.seq .nil (.seq (.seq .nil (.draw (.pre [0, 1, 2, 3, 4, 5, 6, 7, 8, 9, 10] .nil) [0, 1, 3, 7, 0, 16, 48, 112, 0, 496, 1023])) .nil)) .nil)))
def S_plog_Log_Trim (a0 : Value) (a1 : Value) (w : World) (R : Ending → World → Prop) : Prop :=
  xP Tryd.prog (sNil a0) fun v7_1 =>
  xP Tryd.prog (sFA 96 v7_1 2) fun v8_2 =>
  xR Tryd.prog (sLoad 3 v8_2) w fun v9_3 =>
  xE Tryd.prog (sCall 48 #[a1, v9_3]) w fun v10_4 w5 =>
  xP Tryd.prog (sUn .not v10_4) fun v11_6 =>
  xIf v11_6 (
    xP Tryd.prog (sIface 25 (.int .i64 13)) fun v12_7 =>
    xE Tryd.prog (sCall 14 #[(.string (ByteArray.mk #[112, 108, 111, 103, 46, 84, 114, 105, 109])), (.int .i64 0), v12_7]) w5 fun v13_8 w9 =>
    R (.returned v13_8) w9) (
    xJoin (fun J10 =>
    xP Tryd.prog (sNil a0) fun v16_11 =>
    xP Tryd.prog (sFA 96 v16_11 1) fun v17_12 =>
    xR Tryd.prog (sLoad 3 v17_12) w5 fun v18_13 =>
    xP Tryd.prog (sBin .gtr 3 a1 v18_13) fun v19_14 =>
    xIf v19_14 (
      xP Tryd.prog (sNil a0) fun v22_15 =>
      xP Tryd.prog (sFA 96 v22_15 1) fun v23_16 =>
      xE Tryd.prog (sStore 3 v23_16 a1) w5 fun _ w17 =>
      xP Tryd.prog (sNil a0) fun v25_18 =>
      xP Tryd.prog (sFA 96 v25_18 0) fun v26_19 =>
      xR Tryd.prog (sLoad 93 v26_19) (w17.drew) fun v27_20 =>
      xP Tryd.prog (sNil a0) fun v29_21 =>
      xP Tryd.prog (sFA 96 v29_21 0) fun v30_22 =>
      xR Tryd.prog (sLoad 93 v30_22) (w17.drew) fun v31_23 =>
      xE Tryd.prog (sCall 50 #[v31_23, a1]) (w17.drew) fun v33_24 w25 =>
      xStill Tryd.prog (sLoad 93 v26_19) v27_20 w25 <|
      xE Tryd.prog (sCall 53 #[v27_20, v33_24]) w25 fun _ w27 =>
      J10 [] w27) (
      J10 [] w5)) fun _ _ w30 =>
  R (.returned (.nilIface)) w30)
theorem C_plog_Log_Trim {a0 : Value} {a1 : Value} {w : World} {R : Ending → World → Prop} (h : S_plog_Log_Trim a0 a1 w R) : Calls Tryd.prog 26 #[a0, a1] w R :=
  funcVC_sound (an := A_plog_Log_Trim) (args := [a0, a1]) (k := 2) Tryd.func26 (by kernel_rfl) rfl
    (Eq.mp (show S_plog_Log_Trim a0 a1 w R = funcVC Tryd.prog Tryd.f26 A_plog_Log_Trim [a0, a1] w R by kernel_rfl) h)

/-- stave/stavebook.Same[int] -/
def A_stavebook_Same_int : Ann := (.seq .nil (.seq .nil (.seq (.seq .nil (.one (.loop [5] (.seq .nil (.seq (.one (.seq (.draw (.pre [0, 1, 2, 3, 4, 5, 6, 7, 8] .nil) [0, 0, 3, 7, 0, 0, 48, 112, 255]) .nil)) .nil))))) .nil)))
def S_stavebook_Same_int (a0 : Value) (a1 : Value) (w : World) (R : Ending → World → Prop) : Prop :=
  xP Tryd.prog (sB .len #[56] #[a0]) fun v7_1 =>
  xP Tryd.prog (sB .len #[56] #[a1]) fun v9_2 =>
  xR Tryd.prog (sEq .neq 3 false v7_1 v9_2) w fun v10_3 =>
  xIf v10_3 (
    R (.returned (.bool false)) w) (
    xLoop [(.int .i64 0)] w fun J4 vs5 _ w7 =>
    xP Tryd.prog (sB .len #[56] #[a0]) fun v13_8 =>
    xP Tryd.prog (sBin .lss 3 (vs5.getD 0 undef) v13_8) fun v14_9 =>
    xIf v14_9 (
      xP Tryd.prog (sIA 56 a0 (vs5.getD 0 undef)) fun v19_10 =>
    xR Tryd.prog (sLoad 3 v19_10) (w7.drew) fun v20_11 =>
    xP Tryd.prog (sIA 56 a1 (vs5.getD 0 undef)) fun v23_12 =>
    xR Tryd.prog (sLoad 3 v23_12) (w7.drew) fun v24_13 =>
    xR Tryd.prog (sEq .neq 3 false v20_11 v24_13) (w7.drew) fun v25_14 =>
    xIf v25_14 (
      R (.returned (.bool false)) (w7.drew)) (
      xP Tryd.prog (sBin .add 3 (vs5.getD 0 undef) (.int .i64 1)) fun v16_15 =>
    J4 [v16_15] (w7.drew))) (
      R (.returned (.bool true)) w7))
theorem C_stavebook_Same_int {a0 : Value} {a1 : Value} {w : World} {R : Ending → World → Prop} (h : S_stavebook_Same_int a0 a1 w R) : Calls Tryd.prog 27 #[a0, a1] w R :=
  funcVC_sound (an := A_stavebook_Same_int) (args := [a0, a1]) (k := 2) Tryd.func27 (by kernel_rfl) rfl
    (Eq.mp (show S_stavebook_Same_int a0 a1 w R = funcVC Tryd.prog Tryd.f27 A_stavebook_Same_int [a0, a1] w R by kernel_rfl) h)

/-- stave/stavelaw17.bases -/
def A_stavelaw17_bases : Ann := (.seq .nil (.seq .nil (.seq (.seq .nil (.one (.loop [3, 8] .nil))) .nil)))
def S_stavelaw17_bases (a0 : Value) (w : World) (R : Ending → World → Prop) : Prop :=
  xP Tryd.prog (sB .len #[51] #[a0]) fun v7_1 =>
  xLoop [(.slice none 0 0), (.int .i64 0)] w fun J2 vs3 _ w5 =>
    xP Tryd.prog (sBin .lss 3 (vs3.getD 1 undef) v7_1) fun v9_6 =>
    xIf v9_6 (
      xP Tryd.prog (sIA 51 a0 (vs3.getD 1 undef)) fun v10_7 =>
    xR Tryd.prog (sLoad 64 v10_7) w5 fun v11_8 =>
    xE Tryd.prog (sAlloc 64) w5 fun v5_9 w10 =>
    xE Tryd.prog (sStore 64 v5_9 v11_8) w10 fun _ w11 =>
    xP Tryd.prog (sFA 64 v5_9 0) fun v13_12 =>
    xR Tryd.prog (sLoad 3 v13_12) w11 fun v14_13 =>
    xE Tryd.prog (sBuildSlice 56 1 #[(0, v14_13)]) w11 fun v15_14 w15 =>
    xE Tryd.prog (sB .append #[56, 56] #[(vs3.getD 0 undef), v15_14]) w15 fun v16_16 w17 =>
    xP Tryd.prog (sBin .add 3 (vs3.getD 1 undef) (.int .i64 1)) fun v17_18 =>
    J2 [v16_16, v17_18] w17) (
      R (.returned (vs3.getD 0 undef)) w5)
theorem C_stavelaw17_bases {a0 : Value} {w : World} {R : Ending → World → Prop} (h : S_stavelaw17_bases a0 w R) : Calls Tryd.prog 28 #[a0] w R :=
  funcVC_sound (an := A_stavelaw17_bases) (args := [a0]) (k := 1) Tryd.func28 (by kernel_rfl) rfl
    (Eq.mp (show S_stavelaw17_bases a0 w R = funcVC Tryd.prog Tryd.f28 A_stavelaw17_bases [a0] w R by kernel_rfl) h)

/-- (*stave/plog.Log).Start -/
def A_plog_Log_Start : Ann := .nil
def S_plog_Log_Start (a0 : Value) (w : World) (R : Ending → World → Prop) : Prop :=
  xP Tryd.prog (sNil a0) fun v4_1 =>
  xP Tryd.prog (sFA 96 v4_1 1) fun v5_2 =>
  xR Tryd.prog (sLoad 3 v5_2) w fun v6_3 =>
  R (.returned v6_3) w
theorem C_plog_Log_Start {a0 : Value} {w : World} {R : Ending → World → Prop} (h : S_plog_Log_Start a0 w R) : Calls Tryd.prog 29 #[a0] w R :=
  funcVC_sound (an := A_plog_Log_Start) (args := [a0]) (k := 1) Tryd.func29 (by kernel_rfl) rfl
    (Eq.mp (show S_plog_Log_Start a0 w R = funcVC Tryd.prog Tryd.f29 A_plog_Log_Start [a0] w R by kernel_rfl) h)

/-- (*stave/plog.Log).Len -/
def A_plog_Log_Len : Ann := .nil
def S_plog_Log_Len (a0 : Value) (w : World) (R : Ending → World → Prop) : Prop :=
  xP Tryd.prog (sNil a0) fun v4_1 =>
  xP Tryd.prog (sFA 96 v4_1 0) fun v5_2 =>
  xR Tryd.prog (sLoad 93 v5_2) w fun v6_3 =>
  xE Tryd.prog (sCall 51 #[v6_3]) w fun v7_4 w5 =>
  R (.returned v7_4) w5
theorem C_plog_Log_Len {a0 : Value} {w : World} {R : Ending → World → Prop} (h : S_plog_Log_Len a0 w R) : Calls Tryd.prog 30 #[a0] w R :=
  funcVC_sound (an := A_plog_Log_Len) (args := [a0]) (k := 1) Tryd.func30 (by kernel_rfl) rfl
    (Eq.mp (show S_plog_Log_Len a0 w R = funcVC Tryd.prog Tryd.f30 A_plog_Log_Len [a0] w R by kernel_rfl) h)

/-- (*stave/plog.Log).Next -/
def A_plog_Log_Next : Ann := .nil
def S_plog_Log_Next (a0 : Value) (w : World) (R : Ending → World → Prop) : Prop :=
  xP Tryd.prog (sNil a0) fun v4_1 =>
  xP Tryd.prog (sFA 96 v4_1 2) fun v5_2 =>
  xR Tryd.prog (sLoad 3 v5_2) w fun v6_3 =>
  R (.returned v6_3) w
theorem C_plog_Log_Next {a0 : Value} {w : World} {R : Ending → World → Prop} (h : S_plog_Log_Next a0 w R) : Calls Tryd.prog 31 #[a0] w R :=
  funcVC_sound (an := A_plog_Log_Next) (args := [a0]) (k := 1) Tryd.func31 (by kernel_rfl) rfl
    (Eq.mp (show S_plog_Log_Next a0 w R = funcVC Tryd.prog Tryd.f31 A_plog_Log_Next [a0] w R by kernel_rfl) h)

/-- (*stave/plog.Log).At -/
def A_plog_Log_At : Ann := (.seq .nil (.seq .nil (.seq .nil (.seq (.draw (.pre [0, 1, 2, 3, 4, 5, 6, 7, 8, 9, 10, 11, 12] .nil) [0, 1, 3, 7, 0, 16, 48, 112, 0, 496, 1008, 2047, 4095]) .nil))))
def S_plog_Log_At (a0 : Value) (a1 : Value) (w : World) (R : Ending → World → Prop) : Prop :=
  xP Tryd.prog (sNil a0) fun v7_1 =>
  xP Tryd.prog (sFA 96 v7_1 0) fun v8_2 =>
  xR Tryd.prog (sLoad 93 v8_2) w fun v9_3 =>
  xE Tryd.prog (sCall 54 #[v9_3, a1]) w fun v11_4 w5 =>
  xP Tryd.prog (sNil a0) fun v14_6 =>
  xP Tryd.prog (sFA 96 v14_6 0) fun v15_7 =>
  xR Tryd.prog (sLoad 93 v15_7) w5 fun v16_8 =>
  xE Tryd.prog (sCall 51 #[v16_8]) w5 fun v17_9 w10 =>
  xR Tryd.prog (sEq .eql 3 false v11_4 v17_9) w10 fun v18_11 =>
  xIf v18_11 (
    xP Tryd.prog (sNil a0) fun v20_12 =>
    xP Tryd.prog (sFA 96 v20_12 2) fun v21_13 =>
    xR Tryd.prog (sLoad 3 v21_13) w10 fun v22_14 =>
    R (.returned v22_14) w10) (
    xP Tryd.prog (sNil a0) fun v24_15 =>
  xP Tryd.prog (sFA 96 v24_15 1) fun v25_16 =>
  xR Tryd.prog (sLoad 3 v25_16) (w10.drew) fun v26_17 =>
  xP Tryd.prog (sNil a0) fun v28_18 =>
  xP Tryd.prog (sFA 96 v28_18 0) fun v29_19 =>
  xR Tryd.prog (sLoad 93 v29_19) (w10.drew) fun v30_20 =>
  xE Tryd.prog (sCall 52 #[v30_20, v11_4]) (w10.drew) fun v32_21 w22 =>
  xStill Tryd.prog (sLoad 3 v25_16) v26_17 w22 <|
  xP Tryd.prog (sField 64 v32_21 0) fun v33_23 =>
  xP Tryd.prog (sB .max #[3, 3] #[v26_17, v33_23]) fun v34_24 =>
  R (.returned v34_24) w22)
theorem C_plog_Log_At {a0 : Value} {a1 : Value} {w : World} {R : Ending → World → Prop} (h : S_plog_Log_At a0 a1 w R) : Calls Tryd.prog 32 #[a0, a1] w R :=
  funcVC_sound (an := A_plog_Log_At) (args := [a0, a1]) (k := 2) Tryd.func32 (by kernel_rfl) rfl
    (Eq.mp (show S_plog_Log_At a0 a1 w R = funcVC Tryd.prog Tryd.f32 A_plog_Log_At [a0, a1] w R by kernel_rfl) h)

/-- (*stave/plog.Log).Keep -/
def A_plog_Log_Keep : Ann := (.seq .nil (.seq .nil (.seq (.one (.loop [5] (.seq (.join [16] .nil .nil) .nil))) .nil)))
def S_plog_Log_Keep (a0 : Value) (a1 : Value) (w : World) (R : Ending → World → Prop) : Prop :=
  xLoop [(.int .i64 0)] w fun J1 vs2 _ w4 =>
    xJoin (fun J5 =>
      xP Tryd.prog (sBin .geq 3 a1 (.int .i64 0)) fun v7_6 =>
      xIf v7_6 (
      xP Tryd.prog (sNil a0) fun v10_7 =>
      xP Tryd.prog (sFA 96 v10_7 0) fun v11_8 =>
      xR Tryd.prog (sLoad 93 v11_8) w4 fun v12_9 =>
      xE Tryd.prog (sCall 51 #[v12_9]) w4 fun v13_10 w11 =>
      xP Tryd.prog (sBin .gtr 3 v13_10 a1) fun v15_12 =>
      J5 [v15_12] w11) (
      J5 [(.bool false)] w4)) fun vs13 _ w15 =>
    xIf (vs13.getD 0 undef) (
      xE Tryd.prog (sCall 55 #[a0]) w15 fun _ w17 =>
    xP Tryd.prog (sBin .add 3 (vs2.getD 0 undef) (.int .i64 1)) fun v18_18 =>
    J1 [v18_18] w17) (
      R (.returned (vs2.getD 0 undef)) w15)
theorem C_plog_Log_Keep {a0 : Value} {a1 : Value} {w : World} {R : Ending → World → Prop} (h : S_plog_Log_Keep a0 a1 w R) : Calls Tryd.prog 33 #[a0, a1] w R :=
  funcVC_sound (an := A_plog_Log_Keep) (args := [a0, a1]) (k := 2) Tryd.func33 (by kernel_rfl) rfl
    (Eq.mp (show S_plog_Log_Keep a0 a1 w R = funcVC Tryd.prog Tryd.f33 A_plog_Log_Keep [a0, a1] w R by kernel_rfl) h)

/-- (*stave/plog.Log).Older -/
def A_plog_Log_Older : Ann := (.seq .nil (.seq .nil (.seq (.one (.loop [5] (.seq (.join [21] .nil .nil) .nil))) .nil)))
def S_plog_Log_Older (a0 : Value) (a1 : Value) (w : World) (R : Ending → World → Prop) : Prop :=
  xLoop [(.int .i64 0)] w fun J1 vs2 _ w4 =>
    xJoin (fun J5 =>
      xP Tryd.prog (sNil a0) fun v7_6 =>
      xP Tryd.prog (sFA 96 v7_6 0) fun v8_7 =>
      xR Tryd.prog (sLoad 93 v8_7) w4 fun v9_8 =>
      xE Tryd.prog (sCall 51 #[v9_8]) w4 fun v10_9 w10 =>
      xP Tryd.prog (sBin .gtr 3 v10_9 (.int .i64 0)) fun v11_11 =>
      xIf v11_11 (
      xP Tryd.prog (sNil a0) fun v14_12 =>
      xP Tryd.prog (sFA 96 v14_12 0) fun v15_13 =>
      xR Tryd.prog (sLoad 93 v15_13) w10 fun v16_14 =>
      xE Tryd.prog (sCall 52 #[v16_14, (.int .i64 0)]) w10 fun v17_15 w16 =>
      xP Tryd.prog (sField 64 v17_15 2) fun v18_17 =>
      xP Tryd.prog (sBin .lss 3 v18_17 a1) fun v20_18 =>
      J5 [v20_18] w16) (
      J5 [(.bool false)] w10)) fun vs19 _ w21 =>
    xIf (vs19.getD 0 undef) (
      xE Tryd.prog (sCall 55 #[a0]) w21 fun _ w23 =>
    xP Tryd.prog (sBin .add 3 (vs2.getD 0 undef) (.int .i64 1)) fun v23_24 =>
    J1 [v23_24] w23) (
      R (.returned (vs2.getD 0 undef)) w21)
theorem C_plog_Log_Older {a0 : Value} {a1 : Value} {w : World} {R : Ending → World → Prop} (h : S_plog_Log_Older a0 a1 w R) : Calls Tryd.prog 34 #[a0, a1] w R :=
  funcVC_sound (an := A_plog_Log_Older) (args := [a0, a1]) (k := 2) Tryd.func34 (by kernel_rfl) rfl
    (Eq.mp (show S_plog_Log_Older a0 a1 w R = funcVC Tryd.prog Tryd.f34 A_plog_Log_Older [a0, a1] w R by kernel_rfl) h)

/-- stave/stavebook.Same[stave/api.Head] -/
def A_stavebook_Same_api_Head : Ann := (.seq .nil (.seq .nil (.seq (.seq .nil (.one (.loop [5] (.seq .nil (.seq (.one (.seq (.draw (.pre [0, 1, 2, 3, 4, 5, 6, 7, 8] .nil) [0, 0, 3, 7, 0, 0, 48, 112, 255]) .nil)) .nil))))) .nil)))
def S_stavebook_Same_api_Head (a0 : Value) (a1 : Value) (w : World) (R : Ending → World → Prop) : Prop :=
  xP Tryd.prog (sB .len #[51] #[a0]) fun v7_1 =>
  xP Tryd.prog (sB .len #[51] #[a1]) fun v9_2 =>
  xR Tryd.prog (sEq .neq 3 false v7_1 v9_2) w fun v10_3 =>
  xIf v10_3 (
    R (.returned (.bool false)) w) (
    xLoop [(.int .i64 0)] w fun J4 vs5 _ w7 =>
    xP Tryd.prog (sB .len #[51] #[a0]) fun v13_8 =>
    xP Tryd.prog (sBin .lss 3 (vs5.getD 0 undef) v13_8) fun v14_9 =>
    xIf v14_9 (
      xP Tryd.prog (sIA 51 a0 (vs5.getD 0 undef)) fun v19_10 =>
    xR Tryd.prog (sLoad 64 v19_10) (w7.drew) fun v20_11 =>
    xP Tryd.prog (sIA 51 a1 (vs5.getD 0 undef)) fun v23_12 =>
    xR Tryd.prog (sLoad 64 v23_12) (w7.drew) fun v24_13 =>
    xR Tryd.prog (sEq .neq 64 false v20_11 v24_13) (w7.drew) fun v25_14 =>
    xIf v25_14 (
      R (.returned (.bool false)) (w7.drew)) (
      xP Tryd.prog (sBin .add 3 (vs5.getD 0 undef) (.int .i64 1)) fun v16_15 =>
    J4 [v16_15] (w7.drew))) (
      R (.returned (.bool true)) w7))
theorem C_stavebook_Same_api_Head {a0 : Value} {a1 : Value} {w : World} {R : Ending → World → Prop} (h : S_stavebook_Same_api_Head a0 a1 w R) : Calls Tryd.prog 35 #[a0, a1] w R :=
  funcVC_sound (an := A_stavebook_Same_api_Head) (args := [a0, a1]) (k := 2) Tryd.func35 (by kernel_rfl) rfl
    (Eq.mp (show S_stavebook_Same_api_Head a0 a1 w R = funcVC Tryd.prog Tryd.f35 A_stavebook_Same_api_Head [a0, a1] w R by kernel_rfl) h)

/-- stave/staveref14.NewLog -/
def A_staveref14_NewLog : Ann := .nil
def S_staveref14_NewLog (a0 : Value) (w : World) (R : Ending → World → Prop) : Prop :=
  xP Tryd.prog (sBin .lss 3 a0 (.int .i64 0)) fun v5_1 =>
  xIf v5_1 (
    R (.returned (.tuple #[(.pointer none), (.int .i64 1)])) w) (
    xP Tryd.prog (sBuild 75 #[(1, a0), (2, a0)]) fun v8_2 =>
  xE Tryd.prog (sBox 75 v8_2) w fun v9_3 w4 =>
  R (.returned (.tuple #[v9_3, (.int .i64 0)])) w4)
theorem C_staveref14_NewLog {a0 : Value} {w : World} {R : Ending → World → Prop} (h : S_staveref14_NewLog a0 w R) : Calls Tryd.prog 36 #[a0] w R :=
  funcVC_sound (an := A_staveref14_NewLog) (args := [a0]) (k := 1) Tryd.func36 (by kernel_rfl) rfl
    (Eq.mp (show S_staveref14_NewLog a0 w R = funcVC Tryd.prog Tryd.f36 A_staveref14_NewLog [a0] w R by kernel_rfl) h)

end Go.Proofs.YtjajjblppogfoaaDoor
