import Derived.Test.YtjajjblppogfoaaDoorXB
import Derived.Test.YtjajjblppogfoaaDoorRows
namespace Go.Proofs.YtjajjblppogfoaaDoor
set_option linter.unusedSimpArgs false
set_option linter.unusedVariables false
open Go.X
set_option maxRecDepth 100000

/-- (*stave/staveref14.Log).Add -/
def A_staveref14_Log_Add : Ann := (.seq .nil (.seq (.join [33] .nil .nil) (.seq .nil (.join [] (.draw (.pre [0, 2, 3, 4, 5, 7, 8, 9, 10, 11, 12, 13, 14, 15] (.alt 1 (.pre [] (.alt 6 (.pre [16, 17, 18, 19, 20] .nil) (.op 16 (.pre [6, 17, 18, 19, 20] .nil)))) (.op 16 (.pre [1, 6, 17, 18, 19, 20] .nil)))) [0, 0, 0, 4, 12, 28, 62, 0, 128, 384, 896, 0, 0, 0, 0, 32640, 65408, 131070, 262143, 524287, 1048575]) .nil))))
def S_staveref14_Log_Add (a0 : Value) (a1 : Value) (a2 : Value) (a3 : Value) (a4 : Value) (w : World) (R : Ending → World → Prop) : Prop :=
  xJoin (fun J1 =>
    xP Tryd.prog (sBin .lss 3 a1 (.int .i64 1)) fun v13_2 =>
    xIf v13_2 (
    J1 [(.bool true)] w) (
    xP Tryd.prog (sBin .gtr 3 a1 (.int .i64 8)) fun v16_3 =>
    xIf v16_3 (
    J1 [(.bool true)] w) (
    xP Tryd.prog (sBin .lss 3 a2 (.int .i64 0)) fun v20_4 =>
    xIf v20_4 (
    J1 [(.bool true)] w) (
    xP Tryd.prog (sBin .gtr 3 a2 (.int .i64 1125899906842624)) fun v24_5 =>
    xIf v24_5 (
    J1 [(.bool true)] w) (
    xP Tryd.prog (sBin .lss 3 a3 (.int .i64 0)) fun v28_6 =>
    xIf v28_6 (
    J1 [(.bool true)] w) (
    xP Tryd.prog (sBin .lss 3 a4 (.int .i64 0)) fun v32_7 =>
    J1 [v32_7] w)))))) fun vs8 _ w10 =>
  xIf (vs8.getD 0 undef) (
    R (.returned (.tuple #[(.int .i64 0), (.int .i64 1)])) w10) (
    xP Tryd.prog (sNil a0) fun v36_11 =>
  xP Tryd.prog (sFA 75 v36_11 2) fun v37_12 =>
  xR Tryd.prog (sLoad 3 v37_12) w10 fun v38_13 =>
  xP Tryd.prog (sBin .sub 3 (.int .i64 9223372036854775807) v38_13) fun v39_14 =>
  xP Tryd.prog (sBin .gtr 3 a1 v39_14) fun v40_15 =>
  xIf v40_15 (
    R (.returned (.tuple #[(.int .i64 0), (.int .i64 13)])) w10) (
    xJoin (fun J16 =>
    xP Tryd.prog (sNil a0) fun v44_17 =>
    xP Tryd.prog (sFA 75 v44_17 0) fun v45_18 =>
    xR Tryd.prog (sLoad 51 v45_18) (w10.drew) fun v46_19 =>
    xP Tryd.prog (sNil a0) fun v49_20 =>
    xP Tryd.prog (sFA 75 v49_20 2) fun v50_21 =>
    xR Tryd.prog (sLoad 3 v50_21) (w10.drew) fun v51_22 =>
    xP Tryd.prog (sBuild 64 #[(0, v51_22), (1, a1), (2, a2), (3, a3), (4, a4)]) fun v56_23 =>
    (xE Tryd.prog (sBuildSlice 51 0 #[]) (w10.drew) fun v42_24 w25 =>
    xStill Tryd.prog (sLoad 3 v50_21) v51_22 w25 <|
    xStill Tryd.prog (sLoad 51 v45_18) v46_19 w25 <|
    (xE Tryd.prog (sB .append #[51, 51] #[v42_24, v46_19]) w25 fun v47_26 w27 =>
    xStill Tryd.prog (sLoad 3 v50_21) v51_22 w27 <|
    xE Tryd.prog (sBuildSlice 51 1 #[(0, v56_23)]) w27 fun v57_28 w29 =>
    xE Tryd.prog (sB .append #[51, 51] #[v47_26, v57_28]) w29 fun v58_30 w31 =>
    xP Tryd.prog (sNil a0) fun v59_32 =>
    xP Tryd.prog (sFA 75 v59_32 0) fun v60_33 =>
    xE Tryd.prog (sStore 51 v60_33 v58_30) w31 fun _ w34 =>
    J16 [] w34) ∧
    (xE Tryd.prog (sBuildSlice 51 1 #[(0, v56_23)]) w25 fun v57_35 w36 =>
    xStill Tryd.prog (sLoad 51 v45_18) v46_19 w36 <|
    xE Tryd.prog (sB .append #[51, 51] #[v42_24, v46_19]) w36 fun v47_37 w38 =>
    xE Tryd.prog (sB .append #[51, 51] #[v47_37, v57_35]) w38 fun v58_39 w40 =>
    xP Tryd.prog (sNil a0) fun v59_41 =>
    xP Tryd.prog (sFA 75 v59_41 0) fun v60_42 =>
    xE Tryd.prog (sStore 51 v60_42 v58_39) w40 fun _ w43 =>
    J16 [] w43)) ∧
    (xE Tryd.prog (sBuildSlice 51 1 #[(0, v56_23)]) (w10.drew) fun v57_44 w45 =>
    xStill Tryd.prog (sLoad 51 v45_18) v46_19 w45 <|
    xE Tryd.prog (sBuildSlice 51 0 #[]) w45 fun v42_46 w47 =>
    xStill Tryd.prog (sLoad 51 v45_18) v46_19 w47 <|
    xE Tryd.prog (sB .append #[51, 51] #[v42_46, v46_19]) w47 fun v47_48 w49 =>
    xE Tryd.prog (sB .append #[51, 51] #[v47_48, v57_44]) w49 fun v58_50 w51 =>
    xP Tryd.prog (sNil a0) fun v59_52 =>
    xP Tryd.prog (sFA 75 v59_52 0) fun v60_53 =>
    xE Tryd.prog (sStore 51 v60_53 v58_50) w51 fun _ w54 =>
    J16 [] w54)) fun _ _ w57 =>
  xP Tryd.prog (sNil a0) fun v63_58 =>
  xP Tryd.prog (sFA 75 v63_58 2) fun v64_59 =>
  xR Tryd.prog (sLoad 3 v64_59) w57 fun v65_60 =>
  xP Tryd.prog (sBin .add 3 v65_60 a1) fun v67_61 =>
  xP Tryd.prog (sNil a0) fun v68_62 =>
  xP Tryd.prog (sFA 75 v68_62 2) fun v69_63 =>
  xE Tryd.prog (sStore 3 v69_63 v67_61) w57 fun _ w64 =>
  xP Tryd.prog (sNil a0) fun v72_65 =>
  xP Tryd.prog (sFA 75 v72_65 3) fun v73_66 =>
  xR Tryd.prog (sLoad 3 v73_66) w64 fun v74_67 =>
  xP Tryd.prog (sB .max #[3, 3] #[v74_67, a2]) fun v76_68 =>
  xP Tryd.prog (sNil a0) fun v77_69 =>
  xP Tryd.prog (sFA 75 v77_69 3) fun v78_70 =>
  xE Tryd.prog (sStore 3 v78_70 v76_68) w64 fun _ w71 =>
  xP Tryd.prog (sNil a0) fun v80_72 =>
  xP Tryd.prog (sFA 75 v80_72 2) fun v81_73 =>
  xR Tryd.prog (sLoad 3 v81_73) w71 fun v82_74 =>
  xP Tryd.prog (sBin .sub 3 v82_74 a1) fun v84_75 =>
  R (.returned (.tuple #[v84_75, (.int .i64 0)])) w71))
theorem C_staveref14_Log_Add {a0 : Value} {a1 : Value} {a2 : Value} {a3 : Value} {a4 : Value} {w : World} {R : Ending → World → Prop} (h : S_staveref14_Log_Add a0 a1 a2 a3 a4 w R) : Calls Tryd.prog 37 #[a0, a1, a2, a3, a4] w R :=
  funcVC_sound (an := A_staveref14_Log_Add) (args := [a0, a1, a2, a3, a4]) (k := 5) Tryd.func37 (by kernel_rfl) rfl
    (Eq.mp (show S_staveref14_Log_Add a0 a1 a2 a3 a4 w R = funcVC Tryd.prog Tryd.f37 A_staveref14_Log_Add [a0, a1, a2, a3, a4] w R by kernel_rfl) h)

/-- (*stave/staveref14.Log).From -/
def A_staveref14_Log_From : Ann := (.seq .nil (.seq (.join [19] .nil .nil) (.seq (.draw (.pre [1, 2, 3, 4, 5, 6, 7, 8, 9] (.alt 0 (.pre [10, 11, 12, 13, 14] .nil) (.op 10 (.pre [11, 0, 12, 13, 14] .nil)))) [0, 0, 2, 6, 14, 0, 32, 96, 224, 0, 992, 2046, 4095, 8191, 16383]) .nil)))
def S_staveref14_Log_From (a0 : Value) (a1 : Value) (w : World) (R : Ending → World → Prop) : Prop :=
  xJoin (fun J1 =>
    xP Tryd.prog (sNil a0) fun v8_2 =>
    xP Tryd.prog (sFA 75 v8_2 1) fun v9_3 =>
    xR Tryd.prog (sLoad 3 v9_3) w fun v10_4 =>
    xP Tryd.prog (sBin .lss 3 a1 v10_4) fun v11_5 =>
    xIf v11_5 (
    J1 [(.bool true)] w) (
    xP Tryd.prog (sNil a0) fun v15_6 =>
    xP Tryd.prog (sFA 75 v15_6 2) fun v16_7 =>
    xR Tryd.prog (sLoad 3 v16_7) w fun v17_8 =>
    xP Tryd.prog (sBin .gtr 3 a1 v17_8) fun v18_9 =>
    J1 [v18_9] w)) fun vs10 _ w12 =>
  xIf (vs10.getD 0 undef) (
    R (.returned (.tuple #[(.slice none 0 0), (.int .i64 13)])) w12) (
    xP Tryd.prog (sNil a0) fun v22_13 =>
  xP Tryd.prog (sFA 75 v22_13 0) fun v23_14 =>
  xR Tryd.prog (sLoad 51 v23_14) (w12.drew) fun v24_15 =>
  xP Tryd.prog (sNil a0) fun v26_16 =>
  xP Tryd.prog (sFA 75 v26_16 0) fun v27_17 =>
  xR Tryd.prog (sLoad 51 v27_17) (w12.drew) fun v28_18 =>
  (xE Tryd.prog (sBuildSlice 51 0 #[]) (w12.drew) fun v20_19 w20 =>
  xStill Tryd.prog (sLoad 51 v27_17) v28_18 w20 <|
  xStill Tryd.prog (sLoad 51 v23_14) v24_15 w20 <|
  xE Tryd.prog (sCall 56 #[v28_18, a1]) w20 fun v30_21 w22 =>
  xStill Tryd.prog (sLoad 51 v23_14) v24_15 w22 <|
  xP Tryd.prog (sSlice 51 v24_15 (some v30_21) none none) fun v31_23 =>
  xE Tryd.prog (sB .append #[51, 51] #[v20_19, v31_23]) w22 fun v32_24 w25 =>
  R (.returned (.tuple #[v32_24, (.int .i64 0)])) w25) ∧
  (xE Tryd.prog (sCall 56 #[v28_18, a1]) (w12.drew) fun v30_26 w27 =>
  xStill Tryd.prog (sLoad 51 v23_14) v24_15 w27 <|
  xP Tryd.prog (sSlice 51 v24_15 (some v30_26) none none) fun v31_28 =>
  xE Tryd.prog (sBuildSlice 51 0 #[]) w27 fun v20_29 w30 =>
  xStill Tryd.prog (sLoad 51 v23_14) v24_15 w30 <|
  xE Tryd.prog (sB .append #[51, 51] #[v20_29, v31_28]) w30 fun v32_31 w32 =>
  R (.returned (.tuple #[v32_31, (.int .i64 0)])) w32))
theorem C_staveref14_Log_From {a0 : Value} {a1 : Value} {w : World} {R : Ending → World → Prop} (h : S_staveref14_Log_From a0 a1 w R) : Calls Tryd.prog 38 #[a0, a1] w R :=
  funcVC_sound (an := A_staveref14_Log_From) (args := [a0, a1]) (k := 2) Tryd.func38 (by kernel_rfl) rfl
    (Eq.mp (show S_staveref14_Log_From a0 a1 w R = funcVC Tryd.prog Tryd.f38 A_staveref14_Log_From [a0, a1] w R by kernel_rfl) h)

/-- (*stave/staveref14.Log).Trim -/
def A_staveref14_Log_Trim : Ann := (.seq .nil (.seq (.join [14] .nil .nil) (.seq .nil (.seq .nil (.join [] (.draw (.pre [0, 2, 3, 4, 5, 6, 7, 8, 9, 10] (.alt 1 (.pre [11, 12, 13, 14, 15, 16] .nil) (.op 11 (.pre [12, 1, 13, 14, 15, 16] .nil)))) [0, 0, 0, 4, 12, 28, 0, 64, 192, 448, 0, 1984, 4092, 8190, 16383, 32767, 65535]) .nil)))))
def S_staveref14_Log_Trim (a0 : Value) (a1 : Value) (w : World) (R : Ending → World → Prop) : Prop :=
  xJoin (fun J1 =>
    xP Tryd.prog (sBin .lss 3 a1 (.int .i64 0)) fun v6_2 =>
    xIf v6_2 (
    J1 [(.bool true)] w) (
    xP Tryd.prog (sNil a0) fun v10_3 =>
    xP Tryd.prog (sFA 75 v10_3 2) fun v11_4 =>
    xR Tryd.prog (sLoad 3 v11_4) w fun v12_5 =>
    xP Tryd.prog (sBin .gtr 3 a1 v12_5) fun v13_6 =>
    J1 [v13_6] w)) fun vs7 _ w9 =>
  xIf (vs7.getD 0 undef) (
    R (.returned (.int .i64 13)) w9) (
    xP Tryd.prog (sNil a0) fun v17_10 =>
  xP Tryd.prog (sFA 75 v17_10 1) fun v18_11 =>
  xR Tryd.prog (sLoad 3 v18_11) w9 fun v19_12 =>
  xP Tryd.prog (sBin .leq 3 a1 v19_12) fun v20_13 =>
  xIf v20_13 (
    R (.returned (.int .i64 0)) w9) (
    xP Tryd.prog (sNil a0) fun v23_14 =>
  xP Tryd.prog (sFA 75 v23_14 1) fun v24_15 =>
  xE Tryd.prog (sStore 3 v24_15 a1) w9 fun _ w16 =>
  xJoin (fun J17 =>
    xP Tryd.prog (sNil a0) fun v28_18 =>
    xP Tryd.prog (sFA 75 v28_18 0) fun v29_19 =>
    xR Tryd.prog (sLoad 51 v29_19) (w16.drew) fun v30_20 =>
    xP Tryd.prog (sNil a0) fun v32_21 =>
    xP Tryd.prog (sFA 75 v32_21 0) fun v33_22 =>
    xR Tryd.prog (sLoad 51 v33_22) (w16.drew) fun v34_23 =>
    (xE Tryd.prog (sBuildSlice 51 0 #[]) (w16.drew) fun v26_24 w25 =>
    xStill Tryd.prog (sLoad 51 v33_22) v34_23 w25 <|
    xStill Tryd.prog (sLoad 51 v29_19) v30_20 w25 <|
    xE Tryd.prog (sCall 56 #[v34_23, a1]) w25 fun v36_26 w27 =>
    xStill Tryd.prog (sLoad 51 v29_19) v30_20 w27 <|
    xP Tryd.prog (sSlice 51 v30_20 (some v36_26) none none) fun v37_28 =>
    xE Tryd.prog (sB .append #[51, 51] #[v26_24, v37_28]) w27 fun v38_29 w30 =>
    xP Tryd.prog (sNil a0) fun v39_31 =>
    xP Tryd.prog (sFA 75 v39_31 0) fun v40_32 =>
    xE Tryd.prog (sStore 51 v40_32 v38_29) w30 fun _ w33 =>
    J17 [] w33) ∧
    (xE Tryd.prog (sCall 56 #[v34_23, a1]) (w16.drew) fun v36_34 w35 =>
    xStill Tryd.prog (sLoad 51 v29_19) v30_20 w35 <|
    xP Tryd.prog (sSlice 51 v30_20 (some v36_34) none none) fun v37_36 =>
    xE Tryd.prog (sBuildSlice 51 0 #[]) w35 fun v26_37 w38 =>
    xStill Tryd.prog (sLoad 51 v29_19) v30_20 w38 <|
    xE Tryd.prog (sB .append #[51, 51] #[v26_37, v37_36]) w38 fun v38_39 w40 =>
    xP Tryd.prog (sNil a0) fun v39_41 =>
    xP Tryd.prog (sFA 75 v39_41 0) fun v40_42 =>
    xE Tryd.prog (sStore 51 v40_42 v38_39) w40 fun _ w43 =>
    J17 [] w43)) fun _ _ w46 =>
  R (.returned (.int .i64 0)) w46))
theorem C_staveref14_Log_Trim {a0 : Value} {a1 : Value} {w : World} {R : Ending → World → Prop} (h : S_staveref14_Log_Trim a0 a1 w R) : Calls Tryd.prog 39 #[a0, a1] w R :=
  funcVC_sound (an := A_staveref14_Log_Trim) (args := [a0, a1]) (k := 2) Tryd.func39 (by kernel_rfl) rfl
    (Eq.mp (show S_staveref14_Log_Trim a0 a1 w R = funcVC Tryd.prog Tryd.f39 A_staveref14_Log_Trim [a0, a1] w R by kernel_rfl) h)

/-- (*stave/staveref14.Log).Keep -/
def A_staveref14_Log_Keep : Ann := (.seq .nil (.seq .nil (.seq (.one (.loop [5] (.seq (.join [17] .nil .nil) .nil))) .nil)))
def S_staveref14_Log_Keep (a0 : Value) (a1 : Value) (w : World) (R : Ending → World → Prop) : Prop :=
  xLoop [(.int .i64 0)] w fun J1 vs2 _ w4 =>
    xJoin (fun J5 =>
      xP Tryd.prog (sBin .geq 3 a1 (.int .i64 0)) fun v8_6 =>
      xIf v8_6 (
      xP Tryd.prog (sNil a0) fun v11_7 =>
      xP Tryd.prog (sFA 75 v11_7 0) fun v12_8 =>
      xR Tryd.prog (sLoad 51 v12_8) w4 fun v13_9 =>
      xP Tryd.prog (sB .len #[51] #[v13_9]) fun v14_10 =>
      xP Tryd.prog (sBin .gtr 3 v14_10 a1) fun v16_11 =>
      J5 [v16_11] w4) (
      J5 [(.bool false)] w4)) fun vs12 _ w14 =>
    xIf (vs12.getD 0 undef) (
      xP Tryd.prog (sNil a0) fun v19_15 =>
    xP Tryd.prog (sFA 75 v19_15 0) fun v20_16 =>
    xR Tryd.prog (sLoad 51 v20_16) w14 fun v21_17 =>
    xP Tryd.prog (sIA 51 v21_17 (.int .i64 0)) fun v22_18 =>
    xR Tryd.prog (sLoad 64 v22_18) w14 fun v23_19 =>
    xE Tryd.prog (sAlloc 64) w14 fun v6_20 w21 =>
    xE Tryd.prog (sStore 64 v6_20 v23_19) w21 fun _ w22 =>
    xP Tryd.prog (sFA 64 v6_20 0) fun v25_23 =>
    xR Tryd.prog (sLoad 3 v25_23) w22 fun v26_24 =>
    xP Tryd.prog (sFA 64 v6_20 1) fun v27_25 =>
    xR Tryd.prog (sLoad 3 v27_25) w22 fun v28_26 =>
    xP Tryd.prog (sBin .add 3 v26_24 v28_26) fun v29_27 =>
    xP Tryd.prog (sNil a0) fun v30_28 =>
    xP Tryd.prog (sFA 75 v30_28 1) fun v31_29 =>
    xE Tryd.prog (sStore 3 v31_29 v29_27) w22 fun _ w30 =>
    xE Tryd.prog (sBuildSlice 51 0 #[]) w30 fun v33_31 w32 =>
    xP Tryd.prog (sNil a0) fun v35_33 =>
    xP Tryd.prog (sFA 75 v35_33 0) fun v36_34 =>
    xR Tryd.prog (sLoad 51 v36_34) w32 fun v37_35 =>
    xP Tryd.prog (sSlice 51 v37_35 (some (.int .i64 1)) none none) fun v38_36 =>
    xE Tryd.prog (sB .append #[51, 51] #[v33_31, v38_36]) w32 fun v39_37 w38 =>
    xP Tryd.prog (sNil a0) fun v40_39 =>
    xP Tryd.prog (sFA 75 v40_39 0) fun v41_40 =>
    xE Tryd.prog (sStore 51 v41_40 v39_37) w38 fun _ w41 =>
    xP Tryd.prog (sBin .add 3 (vs2.getD 0 undef) (.int .i64 1)) fun v43_42 =>
    J1 [v43_42] w41) (
      R (.returned (vs2.getD 0 undef)) w14)
theorem C_staveref14_Log_Keep {a0 : Value} {a1 : Value} {w : World} {R : Ending → World → Prop} (h : S_staveref14_Log_Keep a0 a1 w R) : Calls Tryd.prog 40 #[a0, a1] w R :=
  funcVC_sound (an := A_staveref14_Log_Keep) (args := [a0, a1]) (k := 2) Tryd.func40 (by kernel_rfl) rfl
    (Eq.mp (show S_staveref14_Log_Keep a0 a1 w R = funcVC Tryd.prog Tryd.f40 A_staveref14_Log_Keep [a0, a1] w R by kernel_rfl) h)

/-- (*stave/staveref14.Log).Older -/
def A_staveref14_Log_Older : Ann := (.seq .nil (.seq .nil (.seq (.one (.loop [5] (.seq (.join [23] .nil .nil) .nil))) .nil)))
def S_staveref14_Log_Older (a0 : Value) (a1 : Value) (w : World) (R : Ending → World → Prop) : Prop :=
  xLoop [(.int .i64 0)] w fun J1 vs2 _ w4 =>
    xJoin (fun J5 =>
      xP Tryd.prog (sNil a0) fun v8_6 =>
      xP Tryd.prog (sFA 75 v8_6 0) fun v9_7 =>
      xR Tryd.prog (sLoad 51 v9_7) w4 fun v10_8 =>
      xP Tryd.prog (sB .len #[51] #[v10_8]) fun v11_9 =>
      xP Tryd.prog (sBin .gtr 3 v11_9 (.int .i64 0)) fun v12_10 =>
      xIf v12_10 (
      xP Tryd.prog (sNil a0) fun v15_11 =>
      xP Tryd.prog (sFA 75 v15_11 0) fun v16_12 =>
      xR Tryd.prog (sLoad 51 v16_12) w4 fun v17_13 =>
      xP Tryd.prog (sIA 51 v17_13 (.int .i64 0)) fun v18_14 =>
      xP Tryd.prog (sFA 64 v18_14 2) fun v19_15 =>
      xR Tryd.prog (sLoad 3 v19_15) w4 fun v20_16 =>
      xP Tryd.prog (sBin .lss 3 v20_16 a1) fun v22_17 =>
      J5 [v22_17] w4) (
      J5 [(.bool false)] w4)) fun vs18 _ w20 =>
    xIf (vs18.getD 0 undef) (
      xP Tryd.prog (sNil a0) fun v25_21 =>
    xP Tryd.prog (sFA 75 v25_21 0) fun v26_22 =>
    xR Tryd.prog (sLoad 51 v26_22) w20 fun v27_23 =>
    xP Tryd.prog (sIA 51 v27_23 (.int .i64 0)) fun v28_24 =>
    xR Tryd.prog (sLoad 64 v28_24) w20 fun v29_25 =>
    xE Tryd.prog (sAlloc 64) w20 fun v6_26 w27 =>
    xE Tryd.prog (sStore 64 v6_26 v29_25) w27 fun _ w28 =>
    xP Tryd.prog (sFA 64 v6_26 0) fun v31_29 =>
    xR Tryd.prog (sLoad 3 v31_29) w28 fun v32_30 =>
    xP Tryd.prog (sFA 64 v6_26 1) fun v33_31 =>
    xR Tryd.prog (sLoad 3 v33_31) w28 fun v34_32 =>
    xP Tryd.prog (sBin .add 3 v32_30 v34_32) fun v35_33 =>
    xP Tryd.prog (sNil a0) fun v36_34 =>
    xP Tryd.prog (sFA 75 v36_34 1) fun v37_35 =>
    xE Tryd.prog (sStore 3 v37_35 v35_33) w28 fun _ w36 =>
    xE Tryd.prog (sBuildSlice 51 0 #[]) w36 fun v39_37 w38 =>
    xP Tryd.prog (sNil a0) fun v41_39 =>
    xP Tryd.prog (sFA 75 v41_39 0) fun v42_40 =>
    xR Tryd.prog (sLoad 51 v42_40) w38 fun v43_41 =>
    xP Tryd.prog (sSlice 51 v43_41 (some (.int .i64 1)) none none) fun v44_42 =>
    xE Tryd.prog (sB .append #[51, 51] #[v39_37, v44_42]) w38 fun v45_43 w44 =>
    xP Tryd.prog (sNil a0) fun v46_45 =>
    xP Tryd.prog (sFA 75 v46_45 0) fun v47_46 =>
    xE Tryd.prog (sStore 51 v47_46 v45_43) w44 fun _ w47 =>
    xP Tryd.prog (sBin .add 3 (vs2.getD 0 undef) (.int .i64 1)) fun v49_48 =>
    J1 [v49_48] w47) (
      R (.returned (vs2.getD 0 undef)) w20)
theorem C_staveref14_Log_Older {a0 : Value} {a1 : Value} {w : World} {R : Ending → World → Prop} (h : S_staveref14_Log_Older a0 a1 w R) : Calls Tryd.prog 41 #[a0, a1] w R :=
  funcVC_sound (an := A_staveref14_Log_Older) (args := [a0, a1]) (k := 2) Tryd.func41 (by kernel_rfl) rfl
    (Eq.mp (show S_staveref14_Log_Older a0 a1 w R = funcVC Tryd.prog Tryd.f41 A_staveref14_Log_Older [a0, a1] w R by kernel_rfl) h)

/-- stave/staveref14.When -/
def A_staveref14_When : Ann := (.seq .nil (.seq (.seq .nil (.one (.loop [9] .nil))) .nil))
def S_staveref14_When (a0 : Value) (a1 : Value) (w : World) (R : Ending → World → Prop) : Prop :=
  xP Tryd.prog (sB .len #[51] #[a0]) fun v8_1 =>
  xLoop [(.int .i64 0)] w fun J2 vs3 _ w5 =>
    xP Tryd.prog (sBin .lss 3 (vs3.getD 0 undef) v8_1) fun v10_6 =>
    xIf v10_6 (
      xP Tryd.prog (sIA 51 a0 (vs3.getD 0 undef)) fun v12_7 =>
    xR Tryd.prog (sLoad 64 v12_7) w5 fun v13_8 =>
    xE Tryd.prog (sAlloc 64) w5 fun v6_9 w10 =>
    xE Tryd.prog (sStore 64 v6_9 v13_8) w10 fun _ w11 =>
    xP Tryd.prog (sFA 64 v6_9 2) fun v14_12 =>
    xR Tryd.prog (sLoad 3 v14_12) w11 fun v15_13 =>
    xP Tryd.prog (sBin .geq 3 v15_13 a1) fun v17_14 =>
    xIf v17_14 (
      R (.returned (vs3.getD 0 undef)) w11) (
      xP Tryd.prog (sBin .add 3 (vs3.getD 0 undef) (.int .i64 1)) fun v19_15 =>
    J2 [v19_15] w11)) (
      xP Tryd.prog (sB .len #[51] #[a0]) fun v21_16 =>
  R (.returned v21_16) w5)
theorem C_staveref14_When {a0 : Value} {a1 : Value} {w : World} {R : Ending → World → Prop} (h : S_staveref14_When a0 a1 w R) : Calls Tryd.prog 42 #[a0, a1] w R :=
  funcVC_sound (an := A_staveref14_When) (args := [a0, a1]) (k := 2) Tryd.func42 (by kernel_rfl) rfl
    (Eq.mp (show S_staveref14_When a0 a1 w R = funcVC Tryd.prog Tryd.f42 A_staveref14_When [a0, a1] w R by kernel_rfl) h)

/-- stave/fault.faults -/
def A_fault_faults : Ann := (.seq .nil (.seq .nil (.seq .nil (.seq (.one (.loop [0, 3] .nil)) .nil))))
def S_fault_faults (a0 : Value) (w : World) (R : Ending → World → Prop) : Prop :=
  xE Tryd.prog (sAlloc 82) w fun v4_1 w2 =>
  xLoop [a0, (.slice none 0 0)] w2 fun J3 vs4 _ w6 =>
    xP Tryd.prog (sIface 101 v4_1) fun v6_7 =>
    xE Tryd.prog (sCall 44 #[(vs4.getD 0 undef), v6_7]) w6 fun v7_8 w9 =>
    xIf v7_8 (
      xR Tryd.prog (sLoad 82 v4_1) w9 fun v9_10 =>
    xE Tryd.prog (sBuildSlice 83 1 #[(0, v9_10)]) w9 fun v10_11 w12 =>
    xE Tryd.prog (sB .append #[83, 83] #[(vs4.getD 1 undef), v10_11]) w12 fun v11_13 w14 =>
    xP Tryd.prog (sFA 82 v4_1 2) fun v12_15 =>
    xR Tryd.prog (sLoad 23 v12_15) w14 fun v13_16 =>
    J3 [v13_16, v11_13] w14) (
      R (.returned (vs4.getD 1 undef)) w9)
theorem C_fault_faults {a0 : Value} {w : World} {R : Ending → World → Prop} (h : S_fault_faults a0 w R) : Calls Tryd.prog 43 #[a0] w R :=
  funcVC_sound (an := A_fault_faults) (args := [a0]) (k := 1) Tryd.func43 (by kernel_rfl) rfl
    (Eq.mp (show S_fault_faults a0 w R = funcVC Tryd.prog Tryd.f43 A_fault_faults [a0] w R by kernel_rfl) h)

/-- errors.As -/
def A_errors_As : Ann := (.seq .nil (.seq .nil (.join [] .nil (.seq .nil (.seq .nil (.join [] (.join [23] .nil .nil) (.seq .nil (.join [] (.join [35] .nil .nil) .nil))))))))
def S_errors_As (a0 : Value) (a1 : Value) (w : World) (R : Ending → World → Prop) : Prop :=
  xR Tryd.prog (sEq .eql 23 true a0 (.nilIface)) w fun v9_1 =>
  xIf v9_1 (
    R (.returned (.bool false)) w) (
    xJoin (fun J2 =>
    xR Tryd.prog (sEq .eql 20 true a1 (.nilIface)) w fun v11_3 =>
    xIf v11_3 (
      xP Tryd.prog (sIface 9 (.string (ByteArray.mk #[101, 114, 114, 111, 114, 115, 58, 32, 116, 97, 114, 103, 101, 116, 32, 99, 97, 110, 110, 111, 116, 32, 98, 101, 32, 110, 105, 108]))) fun v12_4 =>
      xE Tryd.prog (sPanic v12_4) w fun _ w5 =>
      J2 [] w5) (
      J2 [] w)) fun _ _ w8 =>
  xE Tryd.prog (sCall 57 #[a1]) w8 fun v14_9 w10 =>
  xE Tryd.prog (sAlloc 105) w10 fun v5_11 w12 =>
  xE Tryd.prog (sStore 105 v5_11 v14_9) w12 fun _ w13 =>
  xR Tryd.prog (sLoad 105 v5_11) w13 fun v15_14 =>
  xE Tryd.prog (sCall 58 #[v15_14]) w13 fun v16_15 w16 =>
  xJoin (fun J17 =>
    xJoin (fun J18 =>
      xE Tryd.prog (sInvoke "Kind" #[v16_15]) w16 fun v18_19 w20 =>
      xR Tryd.prog (sEq .neq 108 true v18_19 (.int .u8 22)) w20 fun v19_21 =>
      xIf v19_21 (
      J18 [(.bool true)] w20) (
      xR Tryd.prog (sLoad 105 v5_11) w20 fun v21_22 =>
      xE Tryd.prog (sCall 59 #[v21_22]) w20 fun v22_23 w24 =>
      J18 [v22_23] w24)) fun vs25 _ w27 =>
    xIf (vs25.getD 0 undef) (
      xP Tryd.prog (sIface 9 (.string (ByteArray.mk #[101, 114, 114, 111, 114, 115, 58, 32, 116, 97, 114, 103, 101, 116, 32, 109, 117, 115, 116, 32, 98, 101, 32, 97, 32, 110, 111, 110, 45, 110, 105, 108, 32, 112, 111, 105, 110, 116, 101, 114]))) fun v24_28 =>
      xE Tryd.prog (sPanic v24_28) w27 fun _ w29 =>
      J17 [] w29) (
      J17 [] w27)) fun _ _ w32 =>
  xE Tryd.prog (sInvoke "Elem" #[v16_15]) w32 fun v26_33 w34 =>
  xJoin (fun J35 =>
    xJoin (fun J36 =>
      xE Tryd.prog (sInvoke "Kind" #[v26_33]) w34 fun v28_37 w38 =>
      xR Tryd.prog (sEq .neq 108 true v28_37 (.int .u8 20)) w38 fun v29_39 =>
      xIf v29_39 (
      xR Tryd.prog (sLoad 90 (.pointer (some ⟨0, 0, none⟩))) w38 fun v32_40 =>
      xE Tryd.prog (sInvoke "Implements" #[v26_33, v32_40]) w38 fun v33_41 w42 =>
      xP Tryd.prog (sUn .not v33_41) fun v34_43 =>
      J36 [v34_43] w42) (
      J36 [(.bool false)] w38)) fun vs44 _ w46 =>
    xIf (vs44.getD 0 undef) (
      xP Tryd.prog (sIface 9 (.string (ByteArray.mk #[101, 114, 114, 111, 114, 115, 58, 32, 42, 116, 97, 114, 103, 101, 116, 32, 109, 117, 115, 116, 32, 98, 101, 32, 105, 110, 116, 101, 114, 102, 97, 99, 101, 32, 111, 114, 32, 105, 109, 112, 108, 101, 109, 101, 110, 116, 32, 101, 114, 114, 111, 114]))) fun v36_47 =>
      xE Tryd.prog (sPanic v36_47) w46 fun _ w48 =>
      J35 [] w48) (
      J35 [] w46)) fun _ _ w51 =>
  xR Tryd.prog (sLoad 105 v5_11) w51 fun v39_52 =>
  xE Tryd.prog (sCall 60 #[a0, a1, v39_52, v26_33]) w51 fun v41_53 w54 =>
  R (.returned v41_53) w54)
theorem C_errors_As {a0 : Value} {a1 : Value} {w : World} {R : Ending → World → Prop} (h : S_errors_As a0 a1 w R) : Calls Tryd.prog 44 #[a0, a1] w R :=
  funcVC_sound (an := A_errors_As) (args := [a0, a1]) (k := 2) Tryd.func44 (by kernel_rfl) rfl
    (Eq.mp (show S_errors_As a0 a1 w R = funcVC Tryd.prog Tryd.f44 A_errors_As [a0, a1] w R by kernel_rfl) h)

/-- errors.is -/
def A_errors_is : Ann := (.seq .nil (.one (.loop [0] (.one (.seq (.join [19] .nil .nil) (.seq (.seq .nil (.join [30] .nil .nil)) (.seq .nil (.one (.seq .nil (.seq .nil (.seq .nil (.seq (.seq .nil (.seq (.seq .nil (.one (.loop [45] .nil))) .nil)) .nil))))))))))))
def S_errors_is (a0 : Value) (a1 : Value) (a2 : Value) (w : World) (R : Ending → World → Prop) : Prop :=
  xLoop [a0] w fun J1 vs2 _ w4 =>
    xJoin (fun J5 =>
      xIf a2 (
      xR Tryd.prog (sEq .eql 23 false (vs2.getD 0 undef) a1) w4 fun v18_6 =>
      J5 [v18_6] w4) (
      J5 [(.bool false)] w4)) fun vs7 _ w9 =>
    xIf (vs7.getD 0 undef) (
      R (.returned (.bool true)) w9) (
      xP Tryd.prog (sAssert (vs2.getD 0 undef) 23 115 true) fun v22_10 =>
    xP Tryd.prog (sExtract v22_10 0) fun v23_11 =>
    xP Tryd.prog (sExtract v22_10 1) fun v24_12 =>
    xJoin (fun J13 =>
      xIf v24_12 (
      xE Tryd.prog (sInvoke "Is" #[v23_11, a1]) w9 fun v29_14 w15 =>
      J13 [v29_14] w15) (
      J13 [(.bool false)] w9)) fun vs16 _ w18 =>
    xIf (vs16.getD 0 undef) (
      R (.returned (.bool true)) w18) (
      xP Tryd.prog (sAssert (vs2.getD 0 undef) 23 118 true) fun v32_19 =>
    xP Tryd.prog (sExtract v32_19 1) fun v33_20 =>
    xP Tryd.prog (sExtract v32_19 0) fun v34_21 =>
    xIf v33_20 (
      xE Tryd.prog (sInvoke "Unwrap" #[v34_21]) w18 fun v36_22 w23 =>
      xR Tryd.prog (sEq .eql 23 true v36_22 (.nilIface)) w23 fun v38_24 =>
      xIf v38_24 (
        R (.returned (.bool false)) w23) (
        J1 [v36_22] w23)) (
      xP Tryd.prog (sAssert (vs2.getD 0 undef) 23 120 true) fun v39_25 =>
      xP Tryd.prog (sExtract v39_25 1) fun v40_26 =>
      xP Tryd.prog (sExtract v39_25 0) fun v41_27 =>
      xIf v40_26 (
        xE Tryd.prog (sInvoke "Unwrap" #[v41_27]) w18 fun v43_28 w29 =>
        xP Tryd.prog (sB .len #[60] #[v43_28]) fun v44_30 =>
        xLoop [(.int .i64 0)] w29 fun J31 vs32 _ w34 =>
          xP Tryd.prog (sBin .lss 3 (vs32.getD 0 undef) v44_30) fun v46_35 =>
          xIf v46_35 (
            xP Tryd.prog (sIA 60 v43_28 (vs32.getD 0 undef)) fun v47_36 =>
          xR Tryd.prog (sLoad 23 v47_36) w34 fun v48_37 =>
          xE Tryd.prog (sCall 46 #[v48_37, a1, a2]) w34 fun v52_38 w39 =>
          xIf v52_38 (
            R (.returned (.bool true)) w39) (
            xP Tryd.prog (sBin .add 3 (vs32.getD 0 undef) (.int .i64 1)) fun v53_40 =>
          J31 [v53_40] w39)) (
            R (.returned (.bool false)) w34)) (
        R (.returned (.bool false)) w18))))
theorem C_errors_is {a0 : Value} {a1 : Value} {a2 : Value} {w : World} {R : Ending → World → Prop} (h : S_errors_is a0 a1 a2 w R) : Calls Tryd.prog 46 #[a0, a1, a2] w R :=
  funcVC_sound (an := A_errors_is) (args := [a0, a1, a2]) (k := 3) Tryd.func46 (by kernel_rfl) rfl
    (Eq.mp (show S_errors_is a0 a1 a2 w R = funcVC Tryd.prog Tryd.f46 A_errors_is [a0, a1, a2] w R by kernel_rfl) h)

/-- stave/index.New -/
def A_index_New : Ann := .nil
def S_index_New (a0 : Value) (w : World) (R : Ending → World → Prop) : Prop :=
  xP Tryd.prog (sB .max #[3, 3] #[a0, (.int .i64 1)]) fun v4_1 =>
  xP Tryd.prog (sBuild 123 #[(0, v4_1)]) fun v5_2 =>
  xE Tryd.prog (sBox 123 v5_2) w fun v6_3 w4 =>
  R (.returned v6_3) w4
theorem C_index_New {a0 : Value} {w : World} {R : Ending → World → Prop} (h : S_index_New a0 w R) : Calls Tryd.prog 47 #[a0] w R :=
  funcVC_sound (an := A_index_New) (args := [a0]) (k := 1) Tryd.func47 (by kernel_rfl) rfl
    (Eq.mp (show S_index_New a0 w R = funcVC Tryd.prog Tryd.f47 A_index_New [a0] w R by kernel_rfl) h)

/-- stave/plog.within -/
def A_plog_within : Ann := .nil
def S_plog_within (a0 : Value) (a1 : Value) (w : World) (R : Ending → World → Prop) : Prop :=
  xP Tryd.prog (sBin .geq 3 a0 (.int .i64 0)) fun v6_1 =>
  xIf v6_1 (
  xP Tryd.prog (sBin .leq 3 a0 a1) fun v10_2 =>
  R (.returned v10_2) w) (
  R (.returned (.bool false)) w)
theorem C_plog_within {a0 : Value} {a1 : Value} {w : World} {R : Ending → World → Prop} (h : S_plog_within a0 a1 w R) : Calls Tryd.prog 48 #[a0, a1] w R :=
  funcVC_sound (an := A_plog_within) (args := [a0, a1]) (k := 2) Tryd.func48 (by kernel_rfl) rfl
    (Eq.mp (show S_plog_within a0 a1 w R = funcVC Tryd.prog Tryd.f48 A_plog_within [a0, a1] w R by kernel_rfl) h)

/-- (*stave/index.Index).Add -/
def A_index_Index_Add : Ann := (.seq .nil (.seq (.draw (.pre [0, 1, 2, 3, 4, 5, 6, 7, 8, 9, 10] .nil) [0, 0, 2, 6, 14, 0, 32, 126, 255, 511, 1023]) .nil))
def S_index_Index_Add (a0 : Value) (a1 : Value) (w : World) (R : Ending → World → Prop) : Prop :=
  xE Tryd.prog (sBox 64 a1) w fun v3_1 w2 =>
  xP Tryd.prog (sNil a0) fun v6_3 =>
  xP Tryd.prog (sFA 123 v6_3 1) fun v7_4 =>
  xR Tryd.prog (sLoad 51 v7_4) (w2.drew) fun v8_5 =>
  xR Tryd.prog (sLoad 64 v3_1) (w2.drew) fun v9_6 =>
  xE Tryd.prog (sBuildSlice 51 1 #[(0, v9_6)]) (w2.drew) fun v10_7 w8 =>
  xStill Tryd.prog (sLoad 51 v7_4) v8_5 w8 <|
  xE Tryd.prog (sB .append #[51, 51] #[v8_5, v10_7]) w8 fun v11_9 w10 =>
  xP Tryd.prog (sNil a0) fun v12_11 =>
  xP Tryd.prog (sFA 123 v12_11 1) fun v13_12 =>
  xE Tryd.prog (sStore 51 v13_12 v11_9) w10 fun _ w13 =>
  xE Tryd.prog (sCall 61 #[a0]) w13 fun _ w15 =>
  R (.returned (.tuple #[])) w15
theorem C_index_Index_Add {a0 : Value} {a1 : Value} {w : World} {R : Ending → World → Prop} (h : S_index_Index_Add a0 a1 w R) : Calls Tryd.prog 49 #[a0, a1] w R :=
  funcVC_sound (an := A_index_Index_Add) (args := [a0, a1]) (k := 2) Tryd.func49 (by kernel_rfl) rfl
    (Eq.mp (show S_index_Index_Add a0 a1 w R = funcVC Tryd.prog Tryd.f49 A_index_Index_Add [a0, a1] w R by kernel_rfl) h)

/-- (*stave/index.Index).Seek -/
def A_index_Index_Seek : Ann := (.seq .nil (.seq .nil (.seq (.draw (.pre [0, 1, 2, 3, 4, 5, 6, 7, 8, 9, 10, 11] .nil) [0, 0, 2, 6, 0, 16, 48, 112, 254, 0, 1023, 2047]) .nil)))
def S_index_Index_Seek (a0 : Value) (a1 : Value) (w : World) (R : Ending → World → Prop) : Prop :=
  xE Tryd.prog (sBox 93 a0) w fun v2_1 w2 =>
  xE Tryd.prog (sBox 3 a1) w2 fun v3_3 w4 =>
  xR Tryd.prog (sLoad 93 v2_1) w4 fun v6_5 =>
  xP Tryd.prog (sNil v6_5) fun v7_6 =>
  xP Tryd.prog (sFA 123 v7_6 2) fun v8_7 =>
  xR Tryd.prog (sLoad 56 v8_7) w4 fun v9_8 =>
  xP Tryd.prog (sB .len #[56] #[v9_8]) fun v10_9 =>
  xP Tryd.prog (sFunc (.func 63) #[] #[v2_1, v3_3]) fun v11_10 =>
  xE Tryd.prog (sCall 62 #[v10_9, v11_10]) w4 fun v12_11 w12 =>
  xR Tryd.prog (sLoad 93 v2_1) (w12.drew) fun v13_13 =>
  xP Tryd.prog (sBin .sub 3 v12_11 (.int .i64 1)) fun v15_14 =>
  xP Tryd.prog (sB .max #[3, 3] #[v15_14, (.int .i64 0)]) fun v16_15 =>
  xR Tryd.prog (sLoad 93 v2_1) (w12.drew) fun v17_16 =>
  xP Tryd.prog (sNil v17_16) fun v18_17 =>
  xP Tryd.prog (sFA 123 v18_17 0) fun v19_18 =>
  xR Tryd.prog (sLoad 3 v19_18) (w12.drew) fun v20_19 =>
  xP Tryd.prog (sBin .mul 3 v16_15 v20_19) fun v21_20 =>
  xP Tryd.prog (sFunc (.func 65) #[] #[v3_3]) fun v22_21 =>
  xE Tryd.prog (sCall 64 #[v13_13, v21_20, v22_21]) (w12.drew) fun v23_22 w23 =>
  R (.returned v23_22) w23
theorem C_index_Index_Seek {a0 : Value} {a1 : Value} {w : World} {R : Ending → World → Prop} (h : S_index_Index_Seek a0 a1 w R) : Calls Tryd.prog 50 #[a0, a1] w R :=
  funcVC_sound (an := A_index_Index_Seek) (args := [a0, a1]) (k := 2) Tryd.func50 (by kernel_rfl) rfl
    (Eq.mp (show S_index_Index_Seek a0 a1 w R = funcVC Tryd.prog Tryd.f50 A_index_Index_Seek [a0, a1] w R by kernel_rfl) h)

/-- (*stave/index.Index).Len -/
def A_index_Index_Len : Ann := .nil
def S_index_Index_Len (a0 : Value) (w : World) (R : Ending → World → Prop) : Prop :=
  xP Tryd.prog (sNil a0) fun v4_1 =>
  xP Tryd.prog (sFA 123 v4_1 1) fun v5_2 =>
  xR Tryd.prog (sLoad 51 v5_2) w fun v6_3 =>
  xP Tryd.prog (sB .len #[51] #[v6_3]) fun v7_4 =>
  R (.returned v7_4) w
theorem C_index_Index_Len {a0 : Value} {w : World} {R : Ending → World → Prop} (h : S_index_Index_Len a0 w R) : Calls Tryd.prog 51 #[a0] w R :=
  funcVC_sound (an := A_index_Index_Len) (args := [a0]) (k := 1) Tryd.func51 (by kernel_rfl) rfl
    (Eq.mp (show S_index_Index_Len a0 w R = funcVC Tryd.prog Tryd.f51 A_index_Index_Len [a0] w R by kernel_rfl) h)

/-- (*stave/index.Index).Head -/
def A_index_Index_Head : Ann := (.seq .nil (.seq (.join [15] .nil .nil) .nil))
def S_index_Index_Head (a0 : Value) (a1 : Value) (w : World) (R : Ending → World → Prop) : Prop :=
  xE Tryd.prog (sAlloc 64) w fun v4_1 w2 =>
  xJoin (fun J3 =>
    xP Tryd.prog (sBin .lss 3 a1 (.int .i64 0)) fun v6_4 =>
    xIf v6_4 (
    J3 [(.bool true)] w2) (
    xP Tryd.prog (sNil a0) fun v10_5 =>
    xP Tryd.prog (sFA 123 v10_5 1) fun v11_6 =>
    xR Tryd.prog (sLoad 51 v11_6) w2 fun v12_7 =>
    xP Tryd.prog (sB .len #[51] #[v12_7]) fun v13_8 =>
    xP Tryd.prog (sBin .geq 3 a1 v13_8) fun v14_9 =>
    J3 [v14_9] w2)) fun vs10 _ w12 =>
  xIf (vs10.getD 0 undef) (
    xP Tryd.prog (sBuild 64 #[]) fun v16_13 =>
    xE Tryd.prog (sStore 64 v4_1 v16_13) w12 fun _ w14 =>
    xR Tryd.prog (sLoad 64 v4_1) w14 fun r15 => R (.returned r15) w14) (
    xP Tryd.prog (sNil a0) fun v18_16 =>
  xP Tryd.prog (sFA 123 v18_16 1) fun v19_17 =>
  xR Tryd.prog (sLoad 51 v19_17) w12 fun v20_18 =>
  xP Tryd.prog (sIA 51 v20_18 a1) fun v22_19 =>
  xR Tryd.prog (sLoad 64 v22_19) w12 fun v23_20 =>
  xE Tryd.prog (sStore 64 v4_1 v23_20) w12 fun _ w21 =>
  xR Tryd.prog (sLoad 64 v4_1) w21 fun r22 => R (.returned r22) w21)
theorem C_index_Index_Head {a0 : Value} {a1 : Value} {w : World} {R : Ending → World → Prop} (h : S_index_Index_Head a0 a1 w R) : Calls Tryd.prog 52 #[a0, a1] w R :=
  funcVC_sound (an := A_index_Index_Head) (args := [a0, a1]) (k := 2) Tryd.func52 (by kernel_rfl) rfl
    (Eq.mp (show S_index_Index_Head a0 a1 w R = funcVC Tryd.prog Tryd.f52 A_index_Index_Head [a0, a1] w R by kernel_rfl) h)

/-- (*stave/index.Index).Drop -/
def A_index_Index_Drop : Ann := (.seq (.draw (.pre [0, 1, 2, 3, 4, 5, 6, 7, 8, 9, 10, 11, 12, 13] .nil) [0, 1, 3, 7, 0, 16, 48, 112, 240, 0, 512, 2032, 4095, 8191]) (.seq .nil (.seq .nil (.one (.loop [28] .nil)))))
def S_index_Index_Drop (a0 : Value) (a1 : Value) (w : World) (R : Ending → World → Prop) : Prop :=
  xP Tryd.prog (sNil a0) fun v8_1 =>
  xP Tryd.prog (sFA 123 v8_1 1) fun v9_2 =>
  xR Tryd.prog (sLoad 51 v9_2) (w.drew) fun v10_3 =>
  xP Tryd.prog (sNil a0) fun v12_4 =>
  xP Tryd.prog (sFA 123 v12_4 1) fun v13_5 =>
  xR Tryd.prog (sLoad 51 v13_5) (w.drew) fun v14_6 =>
  xP Tryd.prog (sB .len #[51] #[v14_6]) fun v15_7 =>
  xP Tryd.prog (sB .max #[3, 3] #[a1, (.int .i64 0)]) fun v17_8 =>
  xP Tryd.prog (sB .min #[3, 3] #[v15_7, v17_8]) fun v18_9 =>
  xP Tryd.prog (sSlice 51 v10_3 (some v18_9) none none) fun v19_10 =>
  xP Tryd.prog (sNil a0) fun v22_11 =>
  xP Tryd.prog (sFA 123 v22_11 1) fun v23_12 =>
  xE Tryd.prog (sStore 51 v23_12 (.slice none 0 0)) (w.drew) fun _ w13 =>
  xP Tryd.prog (sNil a0) fun v24_14 =>
  xP Tryd.prog (sFA 123 v24_14 2) fun v25_15 =>
  xE Tryd.prog (sStore 56 v25_15 (.slice none 0 0)) w13 fun _ w16 =>
  xP Tryd.prog (sB .len #[51] #[v19_10]) fun v27_17 =>
  xLoop [(.int .i64 0)] w16 fun J18 vs19 _ w21 =>
    xP Tryd.prog (sBin .lss 3 (vs19.getD 0 undef) v27_17) fun v29_22 =>
    xIf v29_22 (
      xP Tryd.prog (sIA 51 v19_10 (vs19.getD 0 undef)) fun v30_23 =>
    xR Tryd.prog (sLoad 64 v30_23) w21 fun v31_24 =>
    xE Tryd.prog (sAlloc 64) w21 fun v6_25 w26 =>
    xE Tryd.prog (sStore 64 v6_25 v31_24) w26 fun _ w27 =>
    xR Tryd.prog (sLoad 64 v6_25) w27 fun v33_28 =>
    xE Tryd.prog (sCall 49 #[a0, v33_28]) w27 fun _ w30 =>
    xP Tryd.prog (sBin .add 3 (vs19.getD 0 undef) (.int .i64 1)) fun v35_31 =>
    J18 [v35_31] w30) (
      R (.returned (.tuple #[])) w21)
theorem C_index_Index_Drop {a0 : Value} {a1 : Value} {w : World} {R : Ending → World → Prop} (h : S_index_Index_Drop a0 a1 w R) : Calls Tryd.prog 53 #[a0, a1] w R :=
  funcVC_sound (an := A_index_Index_Drop) (args := [a0, a1]) (k := 2) Tryd.func53 (by kernel_rfl) rfl
    (Eq.mp (show S_index_Index_Drop a0 a1 w R = funcVC Tryd.prog Tryd.f53 A_index_Index_Drop [a0, a1] w R by kernel_rfl) h)

/-- (*stave/index.Index).When -/
def A_index_Index_When : Ann := .nil
def S_index_Index_When (a0 : Value) (a1 : Value) (w : World) (R : Ending → World → Prop) : Prop :=
  xE Tryd.prog (sBox 3 a1) w fun v3_1 w2 =>
  xP Tryd.prog (sFunc (.func 66) #[] #[v3_1]) fun v6_3 =>
  xE Tryd.prog (sCall 64 #[a0, (.int .i64 0), v6_3]) w2 fun v7_4 w5 =>
  R (.returned v7_4) w5
theorem C_index_Index_When {a0 : Value} {a1 : Value} {w : World} {R : Ending → World → Prop} (h : S_index_Index_When a0 a1 w R) : Calls Tryd.prog 54 #[a0, a1] w R :=
  funcVC_sound (an := A_index_Index_When) (args := [a0, a1]) (k := 2) Tryd.func54 (by kernel_rfl) rfl
    (Eq.mp (show S_index_Index_When a0 a1 w R = funcVC Tryd.prog Tryd.f54 A_index_Index_When [a0, a1] w R by kernel_rfl) h)

/-- (*stave/plog.Log).drop -/
def A_plog_Log_drop : Ann := .nil
def S_plog_Log_drop (a0 : Value) (w : World) (R : Ending → World → Prop) : Prop :=
  xP Tryd.prog (sNil a0) fun v4_1 =>
  xP Tryd.prog (sFA 96 v4_1 0) fun v5_2 =>
  xR Tryd.prog (sLoad 93 v5_2) w fun v6_3 =>
  xE Tryd.prog (sCall 52 #[v6_3, (.int .i64 0)]) w fun v7_4 w5 =>
  xE Tryd.prog (sAlloc 64) w5 fun v2_6 w7 =>
  xE Tryd.prog (sStore 64 v2_6 v7_4) w7 fun _ w8 =>
  xP Tryd.prog (sFA 64 v2_6 0) fun v9_9 =>
  xR Tryd.prog (sLoad 3 v9_9) w8 fun v10_10 =>
  xP Tryd.prog (sFA 64 v2_6 1) fun v11_11 =>
  xR Tryd.prog (sLoad 3 v11_11) w8 fun v12_12 =>
  xP Tryd.prog (sBin .add 3 v10_10 v12_12) fun v13_13 =>
  xP Tryd.prog (sNil a0) fun v14_14 =>
  xP Tryd.prog (sFA 96 v14_14 1) fun v15_15 =>
  xE Tryd.prog (sStore 3 v15_15 v13_13) w8 fun _ w16 =>
  xP Tryd.prog (sNil a0) fun v17_17 =>
  xP Tryd.prog (sFA 96 v17_17 0) fun v18_18 =>
  xR Tryd.prog (sLoad 93 v18_18) w16 fun v19_19 =>
  xE Tryd.prog (sCall 53 #[v19_19, (.int .i64 1)]) w16 fun _ w21 =>
  R (.returned (.tuple #[])) w21
theorem C_plog_Log_drop {a0 : Value} {w : World} {R : Ending → World → Prop} (h : S_plog_Log_drop a0 w R) : Calls Tryd.prog 55 #[a0] w R :=
  funcVC_sound (an := A_plog_Log_drop) (args := [a0]) (k := 1) Tryd.func55 (by kernel_rfl) rfl
    (Eq.mp (show S_plog_Log_drop a0 w R = funcVC Tryd.prog Tryd.f55 A_plog_Log_drop [a0] w R by kernel_rfl) h)

/-- stave/staveref14.Seek -/
def A_staveref14_Seek : Ann := (.seq .nil (.seq (.seq .nil (.one (.loop [9] .nil))) .nil))
def S_staveref14_Seek (a0 : Value) (a1 : Value) (w : World) (R : Ending → World → Prop) : Prop :=
  xP Tryd.prog (sB .len #[51] #[a0]) fun v8_1 =>
  xLoop [(.int .i64 0)] w fun J2 vs3 _ w5 =>
    xP Tryd.prog (sBin .lss 3 (vs3.getD 0 undef) v8_1) fun v10_6 =>
    xIf v10_6 (
      xP Tryd.prog (sIA 51 a0 (vs3.getD 0 undef)) fun v12_7 =>
    xR Tryd.prog (sLoad 64 v12_7) w5 fun v13_8 =>
    xE Tryd.prog (sAlloc 64) w5 fun v6_9 w10 =>
    xE Tryd.prog (sStore 64 v6_9 v13_8) w10 fun _ w11 =>
    xP Tryd.prog (sFA 64 v6_9 0) fun v15_12 =>
    xR Tryd.prog (sLoad 3 v15_12) w11 fun v16_13 =>
    xP Tryd.prog (sBin .sub 3 a1 v16_13) fun v17_14 =>
    xP Tryd.prog (sFA 64 v6_9 1) fun v18_15 =>
    xR Tryd.prog (sLoad 3 v18_15) w11 fun v19_16 =>
    xP Tryd.prog (sBin .lss 3 v17_14 v19_16) fun v20_17 =>
    xIf v20_17 (
      R (.returned (vs3.getD 0 undef)) w11) (
      xP Tryd.prog (sBin .add 3 (vs3.getD 0 undef) (.int .i64 1)) fun v22_18 =>
    J2 [v22_18] w11)) (
      xP Tryd.prog (sB .len #[51] #[a0]) fun v24_19 =>
  R (.returned v24_19) w5)
theorem C_staveref14_Seek {a0 : Value} {a1 : Value} {w : World} {R : Ending → World → Prop} (h : S_staveref14_Seek a0 a1 w R) : Calls Tryd.prog 56 #[a0, a1] w R :=
  funcVC_sound (an := A_staveref14_Seek) (args := [a0, a1]) (k := 2) Tryd.func56 (by kernel_rfl) rfl
    (Eq.mp (show S_staveref14_Seek a0 a1 w R = funcVC Tryd.prog Tryd.f56 A_staveref14_Seek [a0, a1] w R by kernel_rfl) h)

/-- errors.as -/
def A_errors_as : Ann := (.seq .nil (.one (.loop [0] (.one (.seq .nil (.seq (.seq .nil (.join [35] .nil .nil)) (.seq .nil (.one (.seq .nil (.seq .nil (.seq .nil (.seq (.seq .nil (.seq (.seq .nil (.one (.loop [50] (.seq .nil (.seq .nil (.join [] .nil .nil)))))) .nil)) .nil))))))))))))
def S_errors_as (a0 : Value) (a1 : Value) (a2 : Value) (a3 : Value) (w : World) (R : Ending → World → Prop) : Prop :=
  xE Tryd.prog (sBox 105 a2) w fun v6_1 w2 =>
  xLoop [a0] w2 fun J3 vs4 _ w6 =>
    xE Tryd.prog (sCall 45 #[(vs4.getD 0 undef)]) w6 fun v17_7 w8 =>
    xE Tryd.prog (sInvoke "AssignableTo" #[v17_7, a3]) w8 fun v19_9 w10 =>
    xIf v19_9 (
      xR Tryd.prog (sLoad 105 v6_1) w10 fun v20_11 =>
      xE Tryd.prog (sCall 67 #[v20_11]) w10 fun v21_12 w13 =>
      xE Tryd.prog (sCall 57 #[(vs4.getD 0 undef)]) w13 fun v23_14 w15 =>
      xE Tryd.prog (sCall 68 #[v21_12, v23_14]) w15 fun _ w17 =>
      R (.returned (.bool true)) w17) (
      xP Tryd.prog (sAssert (vs4.getD 0 undef) 23 130 true) fun v27_18 =>
    xP Tryd.prog (sExtract v27_18 0) fun v28_19 =>
    xP Tryd.prog (sExtract v27_18 1) fun v29_20 =>
    xJoin (fun J21 =>
      xIf v29_20 (
      xE Tryd.prog (sInvoke "As" #[v28_19, a1]) w10 fun v34_22 w23 =>
      J21 [v34_22] w23) (
      J21 [(.bool false)] w10)) fun vs24 _ w26 =>
    xIf (vs24.getD 0 undef) (
      R (.returned (.bool true)) w26) (
      xP Tryd.prog (sAssert (vs4.getD 0 undef) 23 118 true) fun v37_27 =>
    xP Tryd.prog (sExtract v37_27 1) fun v38_28 =>
    xP Tryd.prog (sExtract v37_27 0) fun v39_29 =>
    xIf v38_28 (
      xE Tryd.prog (sInvoke "Unwrap" #[v39_29]) w26 fun v41_30 w31 =>
      xR Tryd.prog (sEq .eql 23 true v41_30 (.nilIface)) w31 fun v43_32 =>
      xIf v43_32 (
        R (.returned (.bool false)) w31) (
        J3 [v41_30] w31)) (
      xP Tryd.prog (sAssert (vs4.getD 0 undef) 23 120 true) fun v44_33 =>
      xP Tryd.prog (sExtract v44_33 1) fun v45_34 =>
      xP Tryd.prog (sExtract v44_33 0) fun v46_35 =>
      xIf v45_34 (
        xE Tryd.prog (sInvoke "Unwrap" #[v46_35]) w26 fun v48_36 w37 =>
        xP Tryd.prog (sB .len #[60] #[v48_36]) fun v49_38 =>
        xLoop [(.int .i64 0)] w37 fun J39 vs40 _ w42 =>
          xP Tryd.prog (sBin .lss 3 (vs40.getD 0 undef) v49_38) fun v51_43 =>
          xIf v51_43 (
            xJoin (fun J44 =>
            xP Tryd.prog (sIA 60 v48_36 (vs40.getD 0 undef)) fun v52_45 =>
            xR Tryd.prog (sLoad 23 v52_45) w42 fun v53_46 =>
            xR Tryd.prog (sEq .eql 23 true v53_46 (.nilIface)) w42 fun v55_47 =>
            xIf v55_47 (
              J44 [] w42) (
              xR Tryd.prog (sLoad 105 v6_1) w42 fun v58_48 =>
            xE Tryd.prog (sCall 60 #[v53_46, a1, v58_48, a3]) w42 fun v60_49 w50 =>
            xIf v60_49 (
              R (.returned (.bool true)) w50) (
              J44 [] w50))) fun _ _ w53 =>
          xP Tryd.prog (sBin .add 3 (vs40.getD 0 undef) (.int .i64 1)) fun v61_54 =>
          J39 [v61_54] w53) (
            R (.returned (.bool false)) w42)) (
        R (.returned (.bool false)) w26))))
theorem C_errors_as {a0 : Value} {a1 : Value} {a2 : Value} {a3 : Value} {w : World} {R : Ending → World → Prop} (h : S_errors_as a0 a1 a2 a3 w R) : Calls Tryd.prog 60 #[a0, a1, a2, a3] w R :=
  funcVC_sound (an := A_errors_as) (args := [a0, a1, a2, a3]) (k := 4) Tryd.func60 (by kernel_rfl) rfl
    (Eq.mp (show S_errors_as a0 a1 a2 a3 w R = funcVC Tryd.prog Tryd.f60 A_errors_as [a0, a1, a2, a3] w R by kernel_rfl) h)

/-- (*stave/index.Index).mark -/
def A_index_Index_mark : Ann := (.seq .nil (.seq .nil (.seq (.draw (.pre [0, 1, 2, 3, 4, 5, 6, 7, 8, 9, 10, 11, 12, 13, 14, 15, 16, 17] .nil) [0, 0, 2, 6, 14, 0, 32, 96, 224, 0, 992, 2016, 4064, 8160, 16382, 32767, 65535, 131071]) .nil)))
def S_index_Index_mark (a0 : Value) (w : World) (R : Ending → World → Prop) : Prop :=
  xP Tryd.prog (sNil a0) fun v4_1 =>
  xP Tryd.prog (sFA 123 v4_1 1) fun v5_2 =>
  xR Tryd.prog (sLoad 51 v5_2) w fun v6_3 =>
  xP Tryd.prog (sB .len #[51] #[v6_3]) fun v7_4 =>
  xP Tryd.prog (sBin .sub 3 v7_4 (.int .i64 1)) fun v8_5 =>
  xP Tryd.prog (sNil a0) fun v11_6 =>
  xP Tryd.prog (sFA 123 v11_6 0) fun v12_7 =>
  xR Tryd.prog (sLoad 3 v12_7) w fun v13_8 =>
  xP Tryd.prog (sBin .rem 3 v8_5 v13_8) fun v14_9 =>
  xR Tryd.prog (sEq .eql 3 true v14_9 (.int .i64 0)) w fun v15_10 =>
  xIf v15_10 (
    xP Tryd.prog (sNil a0) fun v18_11 =>
    xP Tryd.prog (sFA 123 v18_11 2) fun v19_12 =>
    xR Tryd.prog (sLoad 56 v19_12) (w.drew) fun v20_13 =>
    xP Tryd.prog (sNil a0) fun v22_14 =>
    xP Tryd.prog (sFA 123 v22_14 1) fun v23_15 =>
    xR Tryd.prog (sLoad 51 v23_15) (w.drew) fun v24_16 =>
    xP Tryd.prog (sIA 51 v24_16 v8_5) fun v26_17 =>
    xP Tryd.prog (sFA 64 v26_17 0) fun v27_18 =>
    xR Tryd.prog (sLoad 3 v27_18) (w.drew) fun v28_19 =>
    xE Tryd.prog (sBuildSlice 56 1 #[(0, v28_19)]) (w.drew) fun v29_20 w21 =>
    xStill Tryd.prog (sLoad 56 v19_12) v20_13 w21 <|
    xE Tryd.prog (sB .append #[56, 56] #[v20_13, v29_20]) w21 fun v30_22 w23 =>
    xP Tryd.prog (sNil a0) fun v31_24 =>
    xP Tryd.prog (sFA 123 v31_24 2) fun v32_25 =>
    xE Tryd.prog (sStore 56 v32_25 v30_22) w23 fun _ w26 =>
    R (.returned (.tuple #[])) w26) (
    R (.returned (.tuple #[])) w)
theorem C_index_Index_mark {a0 : Value} {w : World} {R : Ending → World → Prop} (h : S_index_Index_mark a0 w R) : Calls Tryd.prog 61 #[a0] w R :=
  funcVC_sound (an := A_index_Index_mark) (args := [a0]) (k := 1) Tryd.func61 (by kernel_rfl) rfl
    (Eq.mp (show S_index_Index_mark a0 w R = funcVC Tryd.prog Tryd.f61 A_index_Index_mark [a0] w R by kernel_rfl) h)

/-- sort.Search -/
def A_sort_Search : Ann := (.seq .nil (.seq .nil (.seq (.one (.loop [5, 6] .nil)) .nil)))
def S_sort_Search (a0 : Value) (a1 : Value) (w : World) (R : Ending → World → Prop) : Prop :=
  xLoop [(.int .i64 0), a0] w fun J1 vs2 _ w4 =>
    xP Tryd.prog (sBin .lss 3 (vs2.getD 0 undef) (vs2.getD 1 undef)) fun v11_5 =>
    xIf v11_5 (
      xP Tryd.prog (sBin .add 3 (vs2.getD 0 undef) (vs2.getD 1 undef)) fun v14_6 =>
    xP Tryd.prog (sConv 3 133 v14_6) fun v15_7 =>
    xP Tryd.prog (sBin .shr 133 v15_7 (.int .u64 1)) fun v16_8 =>
    xP Tryd.prog (sConv 133 3 v16_8) fun v17_9 =>
    xE Tryd.prog (sCallV a1 #[v17_9]) w4 fun v20_10 w11 =>
    xP Tryd.prog (sUn .not v20_10) fun v21_12 =>
    xIf v21_12 (
      xP Tryd.prog (sBin .add 3 v17_9 (.int .i64 1)) fun v23_13 =>
      J1 [v23_13, (vs2.getD 1 undef)] w11) (
      J1 [(vs2.getD 0 undef), v17_9] w11)) (
      R (.returned (vs2.getD 0 undef)) w4)
theorem C_sort_Search {a0 : Value} {a1 : Value} {w : World} {R : Ending → World → Prop} (h : S_sort_Search a0 a1 w R) : Calls Tryd.prog 62 #[a0, a1] w R :=
  funcVC_sound (an := A_sort_Search) (args := [a0, a1]) (k := 2) Tryd.func62 (by kernel_rfl) rfl
    (Eq.mp (show S_sort_Search a0 a1 w R = funcVC Tryd.prog Tryd.f62 A_sort_Search [a0, a1] w R by kernel_rfl) h)

/-- (*stave/index.Index).Seek$1 -/
def A_index_Index_Seekx1 : Ann := (.seq .nil (.seq (.draw (.pre [0, 1, 2, 3, 4, 5, 6, 7, 8, 9] .nil) [0, 1, 3, 7, 0, 31, 63, 0, 255, 511]) .nil))
def S_index_Index_Seekx1 (a0 : Value) (a1 : Value) (a2 : Value) (w : World) (R : Ending → World → Prop) : Prop :=
  xR Tryd.prog (sLoad 93 a1) (w.drew) fun v5_1 =>
  xP Tryd.prog (sNil v5_1) fun v6_2 =>
  xP Tryd.prog (sFA 123 v6_2 2) fun v7_3 =>
  xR Tryd.prog (sLoad 56 v7_3) (w.drew) fun v8_4 =>
  xP Tryd.prog (sIA 56 v8_4 a0) fun v10_5 =>
  xR Tryd.prog (sLoad 3 v10_5) (w.drew) fun v11_6 =>
  xR Tryd.prog (sLoad 3 a2) (w.drew) fun v12_7 =>
  xP Tryd.prog (sBin .gtr 3 v11_6 v12_7) fun v13_8 =>
  R (.returned v13_8) (w.drew)
theorem C_index_Index_Seekx1 {a0 : Value} {a1 : Value} {a2 : Value} {w : World} {R : Ending → World → Prop} (h : S_index_Index_Seekx1 a0 a1 a2 w R) : Calls Tryd.prog 63 #[a0, a1, a2] w R :=
  funcVC_sound (an := A_index_Index_Seekx1) (args := [a0, a1, a2]) (k := 3) Tryd.func63 (by kernel_rfl) rfl
    (Eq.mp (show S_index_Index_Seekx1 a0 a1 a2 w R = funcVC Tryd.prog Tryd.f63 A_index_Index_Seekx1 [a0, a1, a2] w R by kernel_rfl) h)

/-- (*stave/index.Index).first -/
def A_index_Index_first : Ann := .nil
def S_index_Index_first (a0 : Value) (a1 : Value) (a2 : Value) (w : World) (R : Ending → World → Prop) : Prop :=
  xP Tryd.prog (sNil a0) fun v9_1 =>
  xP Tryd.prog (sFA 123 v9_1 1) fun v10_2 =>
  xR Tryd.prog (sLoad 51 v10_2) w fun v11_3 =>
  xP Tryd.prog (sSlice 51 v11_3 (some a1) none none) fun v13_4 =>
  xE Tryd.prog (sCall 69 #[v13_4, a2]) w fun v15_5 w6 =>
  xP Tryd.prog (sBin .lss 3 v15_5 (.int .i64 0)) fun v17_7 =>
  xIf v17_7 (
    xP Tryd.prog (sNil a0) fun v19_8 =>
    xP Tryd.prog (sFA 123 v19_8 1) fun v20_9 =>
    xR Tryd.prog (sLoad 51 v20_9) w6 fun v21_10 =>
    xP Tryd.prog (sB .len #[51] #[v21_10]) fun v22_11 =>
    R (.returned v22_11) w6) (
    xP Tryd.prog (sBin .add 3 a1 v15_5) fun v25_12 =>
  R (.returned v25_12) w6)
theorem C_index_Index_first {a0 : Value} {a1 : Value} {a2 : Value} {w : World} {R : Ending → World → Prop} (h : S_index_Index_first a0 a1 a2 w R) : Calls Tryd.prog 64 #[a0, a1, a2] w R :=
  funcVC_sound (an := A_index_Index_first) (args := [a0, a1, a2]) (k := 3) Tryd.func64 (by kernel_rfl) rfl
    (Eq.mp (show S_index_Index_first a0 a1 a2 w R = funcVC Tryd.prog Tryd.f64 A_index_Index_first [a0, a1, a2] w R by kernel_rfl) h)

/-- (*stave/index.Index).Seek$2 -/
def A_index_Index_Seekx2 : Ann := .nil
def S_index_Index_Seekx2 (a0 : Value) (a1 : Value) (w : World) (R : Ending → World → Prop) : Prop :=
  xE Tryd.prog (sBox 64 a0) w fun v2_1 w2 =>
  xR Tryd.prog (sLoad 3 a1) w2 fun v4_3 =>
  xP Tryd.prog (sFA 64 v2_1 0) fun v5_4 =>
  xR Tryd.prog (sLoad 3 v5_4) w2 fun v6_5 =>
  xP Tryd.prog (sBin .sub 3 v4_3 v6_5) fun v7_6 =>
  xP Tryd.prog (sFA 64 v2_1 1) fun v8_7 =>
  xR Tryd.prog (sLoad 3 v8_7) w2 fun v9_8 =>
  xP Tryd.prog (sBin .lss 3 v7_6 v9_8) fun v10_9 =>
  R (.returned v10_9) w2
theorem C_index_Index_Seekx2 {a0 : Value} {a1 : Value} {w : World} {R : Ending → World → Prop} (h : S_index_Index_Seekx2 a0 a1 w R) : Calls Tryd.prog 65 #[a0, a1] w R :=
  funcVC_sound (an := A_index_Index_Seekx2) (args := [a0, a1]) (k := 2) Tryd.func65 (by kernel_rfl) rfl
    (Eq.mp (show S_index_Index_Seekx2 a0 a1 w R = funcVC Tryd.prog Tryd.f65 A_index_Index_Seekx2 [a0, a1] w R by kernel_rfl) h)

/-- (*stave/index.Index).When$1 -/
def A_index_Index_Whenx1 : Ann := .nil
def S_index_Index_Whenx1 (a0 : Value) (a1 : Value) (w : World) (R : Ending → World → Prop) : Prop :=
  xE Tryd.prog (sBox 64 a0) w fun v2_1 w2 =>
  xP Tryd.prog (sFA 64 v2_1 2) fun v4_3 =>
  xR Tryd.prog (sLoad 3 v4_3) w2 fun v5_4 =>
  xR Tryd.prog (sLoad 3 a1) w2 fun v6_5 =>
  xP Tryd.prog (sBin .geq 3 v5_4 v6_5) fun v7_6 =>
  R (.returned v7_6) w2
theorem C_index_Index_Whenx1 {a0 : Value} {a1 : Value} {w : World} {R : Ending → World → Prop} (h : S_index_Index_Whenx1 a0 a1 w R) : Calls Tryd.prog 66 #[a0, a1] w R :=
  funcVC_sound (an := A_index_Index_Whenx1) (args := [a0, a1]) (k := 2) Tryd.func66 (by kernel_rfl) rfl
    (Eq.mp (show S_index_Index_Whenx1 a0 a1 w R = funcVC Tryd.prog Tryd.f66 A_index_Index_Whenx1 [a0, a1] w R by kernel_rfl) h)

/-- slices.IndexFunc[[]stave/api.Head,stave/api.Head] -/
def A_slices_IndexFunc_api_Head : Ann := (.seq .nil (.seq (.seq .nil (.one (.loop [8] .nil))) .nil))
def S_slices_IndexFunc_api_Head (a0 : Value) (a1 : Value) (w : World) (R : Ending → World → Prop) : Prop :=
  xP Tryd.prog (sB .len #[51] #[a0]) fun v7_1 =>
  xLoop [(.int .i64 0)] w fun J2 vs3 _ w5 =>
    xP Tryd.prog (sBin .lss 3 (vs3.getD 0 undef) v7_1) fun v9_6 =>
    xIf v9_6 (
      xP Tryd.prog (sIA 51 a0 (vs3.getD 0 undef)) fun v14_7 =>
    xR Tryd.prog (sLoad 64 v14_7) w5 fun v15_8 =>
    xE Tryd.prog (sCallV a1 #[v15_8]) w5 fun v16_9 w10 =>
    xIf v16_9 (
      R (.returned (vs3.getD 0 undef)) w10) (
      xP Tryd.prog (sBin .add 3 (vs3.getD 0 undef) (.int .i64 1)) fun v18_11 =>
    J2 [v18_11] w10)) (
      R (.returned (.int .i64 (-1))) w5)
theorem C_slices_IndexFunc_api_Head {a0 : Value} {a1 : Value} {w : World} {R : Ending → World → Prop} (h : S_slices_IndexFunc_api_Head a0 a1 w R) : Calls Tryd.prog 69 #[a0, a1] w R :=
  funcVC_sound (an := A_slices_IndexFunc_api_Head) (args := [a0, a1]) (k := 2) Tryd.func69 (by kernel_rfl) rfl
    (Eq.mp (show S_slices_IndexFunc_api_Head a0 a1 w R = funcVC Tryd.prog Tryd.f69 A_slices_IndexFunc_api_Head [a0, a1] w R by kernel_rfl) h)

/-- (stave/api.Loss).Is -/
def A_api_Loss_Is : Ann := .nil
def S_api_Loss_Is (a0 : Value) (a1 : Value) (w : World) (R : Ending → World → Prop) : Prop :=
  xE Tryd.prog (sBox 29 a0) w fun _ w2 =>
  xP Tryd.prog (sIface 25 (.int .i64 6)) fun v6_3 =>
  xR Tryd.prog (sEq .eql 23 false a1 v6_3) w2 fun v7_4 =>
  R (.returned v7_4) w2
theorem C_api_Loss_Is {a0 : Value} {a1 : Value} {w : World} {R : Ending → World → Prop} (h : S_api_Loss_Is a0 a1 w R) : Calls Tryd.prog 89 #[a0, a1] w R :=
  funcVC_sound (an := A_api_Loss_Is) (args := [a0, a1]) (k := 2) Tryd.func89 (by kernel_rfl) rfl
    (Eq.mp (show S_api_Loss_Is a0 a1 w R = funcVC Tryd.prog Tryd.f89 A_api_Loss_Is [a0, a1] w R by kernel_rfl) h)

/-- (stave/api.Fault).Unwrap -/
def A_api_Fault_Unwrap : Ann := .nil
def S_api_Fault_Unwrap (a0 : Value) (w : World) (R : Ending → World → Prop) : Prop :=
  xE Tryd.prog (sBox 82 a0) w fun v1_1 w2 =>
  xP Tryd.prog (sFA 82 v1_1 2) fun v3_3 =>
  xR Tryd.prog (sLoad 23 v3_3) w2 fun v4_4 =>
  R (.returned v4_4) w2
theorem C_api_Fault_Unwrap {a0 : Value} {w : World} {R : Ending → World → Prop} (h : S_api_Fault_Unwrap a0 w R) : Calls Tryd.prog 91 #[a0] w R :=
  funcVC_sound (an := A_api_Fault_Unwrap) (args := [a0]) (k := 1) Tryd.func91 (by kernel_rfl) rfl
    (Eq.mp (show S_api_Fault_Unwrap a0 w R = funcVC Tryd.prog Tryd.f91 A_api_Fault_Unwrap [a0] w R by kernel_rfl) h)

/-- gosem.cut.vars -/
def A_gosem_cut_vars : Ann := .nil
def S_gosem_cut_vars (w : World) (R : Ending → World → Prop) : Prop :=
  xP Tryd.prog (sIface 163 (.pointer none)) fun v0_1 =>
  xE Tryd.prog (sCall 45 #[v0_1]) w fun v1_2 w3 =>
  xE Tryd.prog (sInvoke "Elem" #[v1_2]) w3 fun v2_4 w5 =>
  xE Tryd.prog (sStore 90 (.pointer (some ⟨0, 0, none⟩)) v2_4) w5 fun _ w6 =>
  R (.returned (.tuple #[])) w6
theorem C_gosem_cut_vars {w : World} {R : Ending → World → Prop} (h : S_gosem_cut_vars  w R) : Calls Tryd.prog 110 #[] w R :=
  funcVC_sound (an := A_gosem_cut_vars) (args := []) (k := 0) Tryd.func110 (by kernel_rfl) rfl
    (Eq.mp (show S_gosem_cut_vars  w R = funcVC Tryd.prog Tryd.f110 A_gosem_cut_vars [] w R by kernel_rfl) h)

end Go.Proofs.YtjajjblppogfoaaDoor
