import Derived.Test.YtoanmeohlpdjfaaDoorXEnt
import Derived.Test.YtoanmeohlpdjfaaDoorRows
namespace Go.Proofs.YtoanmeohlpdjfaaDoor
set_option linter.unusedSimpArgs false
set_option linter.unusedVariables false
open Go.X
set_option maxRecDepth 100000

/-- stave/stavebook.Same[byte] -/
def A_stavebook_Same_byte : Ann := (.seq .nil (.seq .nil (.seq (.seq .nil (.one (.loop [5] (.seq .nil (.seq (.one (.seq (.draw (.pre [0, 1, 2, 3, 4, 5, 6, 7, 8] .nil) [0, 0, 3, 7, 0, 0, 48, 112, 255]) .nil)) .nil))))) .nil)))
def S_stavebook_Same_byte (a0 : Value) (a1 : Value) (w : World) (R : Ending → World → Prop) : Prop :=
  xP Tryd.prog (sB .len #[32] #[a0]) fun v7_1 =>
  xP Tryd.prog (sB .len #[32] #[a1]) fun v9_2 =>
  xR Tryd.prog (sEq .neq 3 false v7_1 v9_2) w fun v10_3 =>
  xIf v10_3 (
    R (.returned (.bool false)) w) (
    xLoop [(.int .i64 0)] w fun J4 vs5 _ w7 =>
    xP Tryd.prog (sB .len #[32] #[a0]) fun v13_8 =>
    xP Tryd.prog (sBin .lss 3 (vs5.getD 0 undef) v13_8) fun v14_9 =>
    xIf v14_9 (
      xP Tryd.prog (sIA 32 a0 (vs5.getD 0 undef)) fun v19_10 =>
    xR Tryd.prog (sLoad 5 v19_10) (w7.drew) fun v20_11 =>
    xP Tryd.prog (sIA 32 a1 (vs5.getD 0 undef)) fun v23_12 =>
    xR Tryd.prog (sLoad 5 v23_12) (w7.drew) fun v24_13 =>
    xR Tryd.prog (sEq .neq 5 false v20_11 v24_13) (w7.drew) fun v25_14 =>
    xIf v25_14 (
      R (.returned (.bool false)) (w7.drew)) (
      xP Tryd.prog (sBin .add 3 (vs5.getD 0 undef) (.int .i64 1)) fun v16_15 =>
    J4 [v16_15] (w7.drew))) (
      R (.returned (.bool true)) w7))
theorem C_stavebook_Same_byte {a0 : Value} {a1 : Value} {w : World} {R : Ending → World → Prop} (h : S_stavebook_Same_byte a0 a1 w R) : Calls Tryd.prog 24 #[a0, a1] w R :=
  funcVC_sound (an := A_stavebook_Same_byte) (args := [a0, a1]) (k := 2) Tryd.func24 (by kernel_rfl) rfl
    (Eq.mp (show S_stavebook_Same_byte a0 a1 w R = funcVC Tryd.prog Tryd.f24 A_stavebook_Same_byte [a0, a1] w R by kernel_rfl) h)

/-- (*stave/code.Code).Delta -/
def A_code_Code_Delta : Ann := (.seq .nil (.seq (.join [43] .nil .nil) .nil))
def S_code_Code_Delta (a0 : Value) (a1 : Value) (a2 : Value) (a3 : Value) (a4 : Value) (w : World) (R : Ending → World → Prop) : Prop :=
  xJoin (fun J1 =>
    xP Tryd.prog (sBin .lss 3 a1 (.int .i64 0)) fun v15_2 =>
    xIf v15_2 (
    J1 [(.bool true)] w) (
    xP Tryd.prog (sNil a0) fun v19_3 =>
    xP Tryd.prog (sFA 66 v19_3 2) fun v20_4 =>
    xR Tryd.prog (sLoad 29 v20_4) w fun v21_5 =>
    xP Tryd.prog (sB .len #[29] #[v21_5]) fun v22_6 =>
    xP Tryd.prog (sBin .geq 3 a1 v22_6) fun v23_7 =>
    xIf v23_7 (
    J1 [(.bool true)] w) (
    xP Tryd.prog (sBin .lss 3 a2 (.int .i64 0)) fun v27_8 =>
    xIf v27_8 (
    J1 [(.bool true)] w) (
    xP Tryd.prog (sNil a0) fun v32_9 =>
    xP Tryd.prog (sFA 66 v32_9 0) fun v33_10 =>
    xR Tryd.prog (sLoad 3 v33_10) w fun v34_11 =>
    xP Tryd.prog (sBin .geq 3 a2 v34_11) fun v35_12 =>
    xIf v35_12 (
    J1 [(.bool true)] w) (
    xP Tryd.prog (sB .len #[32] #[a3]) fun v39_13 =>
    xP Tryd.prog (sB .len #[32] #[a4]) fun v41_14 =>
    xR Tryd.prog (sEq .neq 3 false v39_13 v41_14) w fun v42_15 =>
    J1 [v42_15] w))))) fun vs16 _ w18 =>
  xIf (vs16.getD 0 undef) (
    xP Tryd.prog (sIface 27 (.int .i64 1)) fun v45_19 =>
    xE Tryd.prog (sCall 27 #[(.string (ByteArray.mk #[99, 111, 100, 101, 46, 68, 101, 108, 116, 97])), a1, v45_19]) w18 fun v46_20 w21 =>
    R (.returned (.tuple #[(.slice none 0 0), v46_20])) w21) (
    xP Tryd.prog (sB .len #[32] #[a3]) fun v48_22 =>
  xE Tryd.prog (sMakeSlice 32 v48_22 v48_22) w18 fun v49_23 w24 =>
  xP Tryd.prog (sNil a0) fun v51_25 =>
  xP Tryd.prog (sFA 66 v51_25 2) fun v52_26 =>
  xR Tryd.prog (sLoad 29 v52_26) w24 fun v53_27 =>
  xP Tryd.prog (sIA 29 v53_27 a1) fun v55_28 =>
  xR Tryd.prog (sLoad 32 v55_28) w24 fun v56_29 =>
  xP Tryd.prog (sIA 32 v56_29 a2) fun v58_30 =>
  xR Tryd.prog (sLoad 5 v58_30) w24 fun v59_31 =>
  xP Tryd.prog (sNil a0) fun v61_32 =>
  xP Tryd.prog (sFA 66 v61_32 1) fun v62_33 =>
  xR Tryd.prog (sLoad 63 v62_33) w24 fun v63_34 =>
  xE Tryd.prog (sCall 39 #[v63_34, v49_23, a3, v59_31]) w24 fun _ w36 =>
  xP Tryd.prog (sNil a0) fun v69_37 =>
  xP Tryd.prog (sFA 66 v69_37 1) fun v70_38 =>
  xR Tryd.prog (sLoad 63 v70_38) w36 fun v71_39 =>
  xE Tryd.prog (sCall 39 #[v71_39, v49_23, a4, v59_31]) w36 fun _ w41 =>
  R (.returned (.tuple #[v49_23, (.nilIface)])) w41)
theorem C_code_Code_Delta {a0 : Value} {a1 : Value} {a2 : Value} {a3 : Value} {a4 : Value} {w : World} {R : Ending → World → Prop} (h : S_code_Code_Delta a0 a1 a2 a3 a4 w R) : Calls Tryd.prog 25 #[a0, a1, a2, a3, a4] w R :=
  funcVC_sound (an := A_code_Code_Delta) (args := [a0, a1, a2, a3, a4]) (k := 5) Tryd.func25 (by kernel_rfl) rfl
    (Eq.mp (show S_code_Code_Delta a0 a1 a2 a3 a4 w R = funcVC Tryd.prog Tryd.f25 A_code_Code_Delta [a0, a1, a2, a3, a4] w R by kernel_rfl) h)

/-- stave/fault.Where -/
def A_fault_Where : Ann := (.seq .nil (.seq .nil (.seq .nil (.seq .nil (.seq (.draw (.pre [0, 1, 2, 3, 4, 5, 6] .nil) [0, 1, 0, 4, 3, 31, 63]) .nil)))))
def S_fault_Where (a0 : Value) (w : World) (R : Ending → World → Prop) : Prop :=
  xE Tryd.prog (sCall 40 #[a0]) w fun v8_1 w2 =>
  xP Tryd.prog (sB .len #[79] #[v8_1]) fun v10_3 =>
  xR Tryd.prog (sEq .eql 3 true v10_3 (.int .i64 0)) w2 fun v11_4 =>
  xIf v11_4 (
    R (.returned (.tuple #[(.string (ByteArray.mk #[])), (.int .i64 0), (.bool false)])) w2) (
    xP Tryd.prog (sB .len #[79] #[v8_1]) fun v14_5 =>
  xP Tryd.prog (sBin .sub 3 v14_5 (.int .i64 1)) fun v15_6 =>
  xP Tryd.prog (sIA 79 v8_1 v15_6) fun v16_7 =>
  xR Tryd.prog (sLoad 82 v16_7) w2 fun v17_8 =>
  xE Tryd.prog (sAlloc 82) w2 fun v6_9 w10 =>
  xE Tryd.prog (sStore 82 v6_9 v17_8) w10 fun _ w11 =>
  xP Tryd.prog (sFA 82 v6_9 0) fun v18_12 =>
  xR Tryd.prog (sLoad 9 v18_12) (w11.drew) fun v19_13 =>
  xP Tryd.prog (sFA 82 v6_9 1) fun v20_14 =>
  xR Tryd.prog (sLoad 3 v20_14) (w11.drew) fun v21_15 =>
  R (.returned (.tuple #[v19_13, v21_15, (.bool true)])) (w11.drew))
theorem C_fault_Where {a0 : Value} {w : World} {R : Ending → World → Prop} (h : S_fault_Where a0 w R) : Calls Tryd.prog 26 #[a0] w R :=
  funcVC_sound (an := A_fault_Where) (args := [a0]) (k := 1) Tryd.func26 (by kernel_rfl) rfl
    (Eq.mp (show S_fault_Where a0 w R = funcVC Tryd.prog Tryd.f26 A_fault_Where [a0] w R by kernel_rfl) h)

/-- stave/fault.Wrap -/
def A_fault_Wrap : Ann := .nil
def S_fault_Wrap (a0 : Value) (a1 : Value) (a2 : Value) (w : World) (R : Ending → World → Prop) : Prop :=
  xR Tryd.prog (sEq .eql 24 true a2 (.nilIface)) w fun v8_1 =>
  xIf v8_1 (
    R (.returned (.nilIface)) w) (
    xP Tryd.prog (sBuild 82 #[(0, a0), (1, a1), (2, a2)]) fun v12_2 =>
  xP Tryd.prog (sIface 82 v12_2) fun v13_3 =>
  R (.returned v13_3) w)
theorem C_fault_Wrap {a0 : Value} {a1 : Value} {a2 : Value} {w : World} {R : Ending → World → Prop} (h : S_fault_Wrap a0 a1 a2 w R) : Calls Tryd.prog 27 #[a0, a1, a2] w R :=
  funcVC_sound (an := A_fault_Wrap) (args := [a0, a1, a2]) (k := 3) Tryd.func27 (by kernel_rfl) rfl
    (Eq.mp (show S_fault_Wrap a0 a1 a2 w R = funcVC Tryd.prog Tryd.f27 A_fault_Wrap [a0, a1, a2] w R by kernel_rfl) h)

/-- stave/gf.Make -/
def A_gf_Make : Ann := (.seq .nil (.seq .nil (.seq .nil (.seq .nil (.seq (.seq .nil (.one (.loop [2, 10] (.seq .nil (.seq .nil (.join [2] (.one (.seq .nil (.seq (.draw (.pre [0, 1, 2, 3, 4, 5, 6, 7, 8, 9, 10, 11, 13, 14, 12, 15, 16] .nil) [0, 0, 0, 0, 8, 0, 32, 0, 128, 1, 513, 1635, 3683, 4, 8196, 32767, 65535]) .nil))) .nil)))))) .nil)))))
def S_gf_Make (w : World) (R : Ending → World → Prop) : Prop :=
  xP Tryd.prog (sBuild 86 #[]) fun v4_1 =>
  xE Tryd.prog (sBox 86 v4_1) w fun v5_2 w3 =>
  xP Tryd.prog (sNil v5_2) fun v7_4 =>
  xP Tryd.prog (sFA 86 v7_4 1) fun v8_5 =>
  xP Tryd.prog (sIA 84 v8_5 (.int .i64 0)) fun v9_6 =>
  xE Tryd.prog (sStore 3 v9_6 (.int .i64 (-1))) w3 fun _ w7 =>
  xLoop [(.int .i64 1), (.int .i64 0)] w7 fun J8 vs9 _ w11 =>
    xP Tryd.prog (sBin .lss 3 (vs9.getD 1 undef) (.int .i64 255)) fun v11_12 =>
    xIf v11_12 (
      xJoin (fun J13 =>
      xP Tryd.prog (sBin .add 3 (vs9.getD 1 undef) (.int .i64 255)) fun v17_14 =>
      xP Tryd.prog (sConv 3 5 (vs9.getD 0 undef)) fun v19_15 =>
      xP Tryd.prog (sConv 3 5 (vs9.getD 0 undef)) fun v21_16 =>
      xP Tryd.prog (sNil v5_2) fun v22_17 =>
      xP Tryd.prog (sFA 86 v22_17 0) fun v23_18 =>
      xP Tryd.prog (sIA 83 v23_18 (vs9.getD 1 undef)) fun v24_19 =>
      xP Tryd.prog (sNil v5_2) fun v25_20 =>
      xP Tryd.prog (sFA 86 v25_20 0) fun v26_21 =>
      xE Tryd.prog (sStore 5 v24_19 v19_15) (w11.drew) fun _ w22 =>
      xP Tryd.prog (sIA 83 v26_21 v17_14) fun v27_23 =>
      xE Tryd.prog (sStore 5 v27_23 v21_16) w22 fun _ w24 =>
      xP Tryd.prog (sNil v5_2) fun v31_25 =>
      xP Tryd.prog (sFA 86 v31_25 1) fun v32_26 =>
      xP Tryd.prog (sIA 84 v32_26 (vs9.getD 0 undef)) fun v33_27 =>
      xE Tryd.prog (sStore 3 v33_27 (vs9.getD 1 undef)) w24 fun _ w28 =>
      xP Tryd.prog (sBin .shl 3 (vs9.getD 0 undef) (.int .u64 1)) fun v35_29 =>
      xP Tryd.prog (sBin .geq 3 v35_29 (.int .i64 256)) fun v37_30 =>
      xIf v37_30 (
        xP Tryd.prog (sBin .xor 3 v35_29 (.int .i64 285)) fun v39_31 =>
        J13 [v39_31] w28) (
        J13 [v35_29] w28)) fun vs32 _ w34 =>
    xP Tryd.prog (sBin .add 3 (vs9.getD 1 undef) (.int .i64 1)) fun v40_35 =>
    J8 [(vs32.getD 0 undef), v40_35] w34) (
      R (.returned v5_2) w11)
theorem C_gf_Make {w : World} {R : Ending → World → Prop} (h : S_gf_Make  w R) : Calls Tryd.prog 28 #[] w R :=
  funcVC_sound (an := A_gf_Make) (args := []) (k := 0) Tryd.func28 (by kernel_rfl) rfl
    (Eq.mp (show S_gf_Make  w R = funcVC Tryd.prog Tryd.f28 A_gf_Make [] w R by kernel_rfl) h)

/-- (*stave/gf.Field).Inv -/
def A_gf_Field_Inv : Ann := (.seq .nil (.seq .nil (.seq (.draw (.pre [0, 1, 2, 3, 4, 5, 6, 7, 8, 9, 10, 11, 12] .nil) [0, 0, 0, 2, 10, 30, 62, 126, 1, 257, 1023, 2047, 4095]) .nil)))
def S_gf_Field_Inv (a0 : Value) (a1 : Value) (w : World) (R : Ending → World → Prop) : Prop :=
  xR Tryd.prog (sEq .eql 5 true a1 (.int .u8 0)) w fun v6_1 =>
  xIf v6_1 (
    R (.returned (.int .u8 0)) w) (
    xP Tryd.prog (sNil a0) fun v10_2 =>
  xP Tryd.prog (sFA 86 v10_2 1) fun v11_3 =>
  xP Tryd.prog (sIA 84 v11_3 a1) fun v12_4 =>
  xR Tryd.prog (sLoad 3 v12_4) (w.drew) fun v13_5 =>
  xP Tryd.prog (sBin .sub 3 (.int .i64 255) v13_5) fun v14_6 =>
  xP Tryd.prog (sNil a0) fun v15_7 =>
  xP Tryd.prog (sFA 86 v15_7 0) fun v16_8 =>
  xP Tryd.prog (sIA 83 v16_8 v14_6) fun v17_9 =>
  xR Tryd.prog (sLoad 5 v17_9) (w.drew) fun v18_10 =>
  R (.returned v18_10) (w.drew))
theorem C_gf_Field_Inv {a0 : Value} {a1 : Value} {w : World} {R : Ending → World → Prop} (h : S_gf_Field_Inv a0 a1 w R) : Calls Tryd.prog 29 #[a0, a1] w R :=
  funcVC_sound (an := A_gf_Field_Inv) (args := [a0, a1]) (k := 2) Tryd.func29 (by kernel_rfl) rfl
    (Eq.mp (show S_gf_Field_Inv a0 a1 w R = funcVC Tryd.prog Tryd.f29 A_gf_Field_Inv [a0, a1] w R by kernel_rfl) h)

/-- errors.As -/
def A_errors_As : Ann := (.seq .nil (.seq .nil (.join [] .nil (.seq .nil (.seq .nil (.join [] (.join [23] .nil .nil) (.seq .nil (.join [] (.join [35] .nil .nil) .nil))))))))
def S_errors_As (a0 : Value) (a1 : Value) (w : World) (R : Ending → World → Prop) : Prop :=
  xR Tryd.prog (sEq .eql 24 true a0 (.nilIface)) w fun v9_1 =>
  xIf v9_1 (
    R (.returned (.bool false)) w) (
    xJoin (fun J2 =>
    xR Tryd.prog (sEq .eql 20 true a1 (.nilIface)) w fun v11_3 =>
    xIf v11_3 (
      xP Tryd.prog (sIface 9 (.string (ByteArray.mk #[101, 114, 114, 111, 114, 115, 58, 32, 116, 97, 114, 103, 101, 116, 32, 99, 97, 110, 110, 111, 116, 32, 98, 101, 32, 110, 105, 108]))) fun v12_4 =>
      xE Tryd.prog (sPanic v12_4) w fun _ w5 =>
      J2 [] w5) (
      J2 [] w)) fun _ _ w8 =>
  xE Tryd.prog (sCall 41 #[a1]) w8 fun v14_9 w10 =>
  xE Tryd.prog (sAlloc 90) w10 fun v5_11 w12 =>
  xE Tryd.prog (sStore 90 v5_11 v14_9) w12 fun _ w13 =>
  xR Tryd.prog (sLoad 90 v5_11) w13 fun v15_14 =>
  xE Tryd.prog (sCall 42 #[v15_14]) w13 fun v16_15 w16 =>
  xJoin (fun J17 =>
    xJoin (fun J18 =>
      xE Tryd.prog (sInvoke "Kind" #[v16_15]) w16 fun v18_19 w20 =>
      xR Tryd.prog (sEq .neq 95 true v18_19 (.int .u8 22)) w20 fun v19_21 =>
      xIf v19_21 (
      J18 [(.bool true)] w20) (
      xR Tryd.prog (sLoad 90 v5_11) w20 fun v21_22 =>
      xE Tryd.prog (sCall 43 #[v21_22]) w20 fun v22_23 w24 =>
      J18 [v22_23] w24)) fun vs25 _ w27 =>
    xIf (vs25.getD 0 undef) (
      xP Tryd.prog (sIface 9 (.string (ByteArray.mk #[101, 114, 114, 111, 114, 115, 58, 32, 116, 97, 114, 103, 101, 116, 32, 109, 117, 115, 116, 32, 98, 101, 32, 97, 32, 110, 111, 110, 45, 110, 105, 108, 32, 112, 111, 105, 110, 116, 101, 114]))) fun v24_28 =>
      xE Tryd.prog (sPanic v24_28) w27 fun _ w29 =>
      J17 [] w29) (
      J17 [] w27)) fun _ _ w32 =>
  xE Tryd.prog (sInvoke "Elem" #[v16_15]) w32 fun v26_33 w34 =>
  xJoin (fun J35 =>
    xJoin (fun J36 =>
      xE Tryd.prog (sInvoke "Kind" #[v26_33]) w34 fun v28_37 w38 =>
      xR Tryd.prog (sEq .neq 95 true v28_37 (.int .u8 20)) w38 fun v29_39 =>
      xIf v29_39 (
      xR Tryd.prog (sLoad 93 (.pointer (some ⟨0, 0, none⟩))) w38 fun v32_40 =>
      xE Tryd.prog (sInvoke "Implements" #[v26_33, v32_40]) w38 fun v33_41 w42 =>
      xP Tryd.prog (sUn .not v33_41) fun v34_43 =>
      J36 [v34_43] w42) (
      J36 [(.bool false)] w38)) fun vs44 _ w46 =>
    xIf (vs44.getD 0 undef) (
      xP Tryd.prog (sIface 9 (.string (ByteArray.mk #[101, 114, 114, 111, 114, 115, 58, 32, 42, 116, 97, 114, 103, 101, 116, 32, 109, 117, 115, 116, 32, 98, 101, 32, 105, 110, 116, 101, 114, 102, 97, 99, 101, 32, 111, 114, 32, 105, 109, 112, 108, 101, 109, 101, 110, 116, 32, 101, 114, 114, 111, 114]))) fun v36_47 =>
      xE Tryd.prog (sPanic v36_47) w46 fun _ w48 =>
      J35 [] w48) (
      J35 [] w46)) fun _ _ w51 =>
  xR Tryd.prog (sLoad 90 v5_11) w51 fun v39_52 =>
  xE Tryd.prog (sCall 44 #[a0, a1, v39_52, v26_33]) w51 fun v41_53 w54 =>
  R (.returned v41_53) w54)
theorem C_errors_As {a0 : Value} {a1 : Value} {w : World} {R : Ending → World → Prop} (h : S_errors_As a0 a1 w R) : Calls Tryd.prog 30 #[a0, a1] w R :=
  funcVC_sound (an := A_errors_As) (args := [a0, a1]) (k := 2) Tryd.func30 (by kernel_rfl) rfl
    (Eq.mp (show S_errors_As a0 a1 w R = funcVC Tryd.prog Tryd.f30 A_errors_As [a0, a1] w R by kernel_rfl) h)

/-- errors.Is -/
def A_errors_Is : Ann := (.seq .nil (.seq (.join [11] .nil .nil) .nil))
def S_errors_Is (a0 : Value) (a1 : Value) (w : World) (R : Ending → World → Prop) : Prop :=
  xJoin (fun J1 =>
    xR Tryd.prog (sEq .eql 24 true a0 (.nilIface)) w fun v7_2 =>
    xIf v7_2 (
    J1 [(.bool true)] w) (
    xR Tryd.prog (sEq .eql 24 true a1 (.nilIface)) w fun v10_3 =>
    J1 [v10_3] w)) fun vs4 _ w6 =>
  xIf (vs4.getD 0 undef) (
    xR Tryd.prog (sEq .eql 24 false a0 a1) w6 fun v14_7 =>
    R (.returned v14_7) w6) (
    xE Tryd.prog (sCall 45 #[a1]) w6 fun v16_8 w9 =>
  xE Tryd.prog (sInvoke "Comparable" #[v16_8]) w9 fun v17_10 w11 =>
  xE Tryd.prog (sCall 46 #[a0, a1, v17_10]) w11 fun v21_12 w13 =>
  R (.returned v21_12) w13)
theorem C_errors_Is {a0 : Value} {a1 : Value} {w : World} {R : Ending → World → Prop} (h : S_errors_Is a0 a1 w R) : Calls Tryd.prog 31 #[a0, a1] w R :=
  funcVC_sound (an := A_errors_Is) (args := [a0, a1]) (k := 2) Tryd.func31 (by kernel_rfl) rfl
    (Eq.mp (show S_errors_Is a0 a1 w R = funcVC Tryd.prog Tryd.f31 A_errors_Is [a0, a1] w R by kernel_rfl) h)

/-- slices.ContainsFunc[[][]byte,[]byte] -/
def A_slices_ContainsFunc_Lbyte : Ann := .nil
def S_slices_ContainsFunc_Lbyte (a0 : Value) (a1 : Value) (w : World) (R : Ending → World → Prop) : Prop :=
  xE Tryd.prog (sCall 47 #[a0, a1]) w fun v7_1 w2 =>
  xP Tryd.prog (sBin .geq 3 v7_1 (.int .i64 0)) fun v8_3 =>
  R (.returned v8_3) w2
theorem C_slices_ContainsFunc_Lbyte {a0 : Value} {a1 : Value} {w : World} {R : Ending → World → Prop} (h : S_slices_ContainsFunc_Lbyte a0 a1 w R) : Calls Tryd.prog 32 #[a0, a1] w R :=
  funcVC_sound (an := A_slices_ContainsFunc_Lbyte) (args := [a0, a1]) (k := 2) Tryd.func32 (by kernel_rfl) rfl
    (Eq.mp (show S_slices_ContainsFunc_Lbyte a0 a1 w R = funcVC Tryd.prog Tryd.f32 A_slices_ContainsFunc_Lbyte [a0, a1] w R by kernel_rfl) h)

/-- (*stave/code.Code).Encode$1 -/
def A_code_Code_Encodex1 : Ann := .nil
def S_code_Code_Encodex1 (a0 : Value) (a1 : Value) (w : World) (R : Ending → World → Prop) : Prop :=
  xP Tryd.prog (sB .len #[32] #[a0]) fun v5_1 =>
  xR Tryd.prog (sLoad 29 a1) w fun v6_2 =>
  xP Tryd.prog (sIA 29 v6_2 (.int .i64 0)) fun v7_3 =>
  xR Tryd.prog (sLoad 32 v7_3) w fun v8_4 =>
  xP Tryd.prog (sB .len #[32] #[v8_4]) fun v9_5 =>
  xR Tryd.prog (sEq .neq 3 false v5_1 v9_5) w fun v10_6 =>
  R (.returned v10_6) w
theorem C_code_Code_Encodex1 {a0 : Value} {a1 : Value} {w : World} {R : Ending → World → Prop} (h : S_code_Code_Encodex1 a0 a1 w R) : Calls Tryd.prog 33 #[a0, a1] w R :=
  funcVC_sound (an := A_code_Code_Encodex1) (args := [a0, a1]) (k := 2) Tryd.func33 (by kernel_rfl) rfl
    (Eq.mp (show S_code_Code_Encodex1 a0 a1 w R = funcVC Tryd.prog Tryd.f33 A_code_Code_Encodex1 [a0, a1] w R by kernel_rfl) h)

/-- (*stave/code.Code).mix -/
def A_code_Code_mix : Ann := (.seq .nil (.seq .nil (.seq (.seq .nil (.one (.loop [17] (.seq .nil (.seq .nil (.seq (.one (.seq .nil (.draw (.pre [0, 1, 2, 3, 4, 5, 6, 7, 8, 9, 10] .nil) [0, 1, 3, 7, 0, 0, 0, 96, 224, 0, 1023]))) .nil)))))) .nil)))
def S_code_Code_mix (a0 : Value) (a1 : Value) (a2 : Value) (w : World) (R : Ending → World → Prop) : Prop :=
  xP Tryd.prog (sIA 29 a2 (.int .i64 0)) fun v11_1 =>
  xR Tryd.prog (sLoad 32 v11_1) w fun v12_2 =>
  xP Tryd.prog (sB .len #[32] #[v12_2]) fun v13_3 =>
  xE Tryd.prog (sMakeSlice 32 v13_3 v13_3) w fun v14_4 w5 =>
  xP Tryd.prog (sB .len #[32] #[a1]) fun v16_6 =>
  xLoop [(.int .i64 0)] w5 fun J7 vs8 _ w10 =>
    xP Tryd.prog (sBin .lss 3 (vs8.getD 0 undef) v16_6) fun v18_11 =>
    xIf v18_11 (
      xP Tryd.prog (sIA 32 a1 (vs8.getD 0 undef)) fun v20_12 =>
    xR Tryd.prog (sLoad 5 v20_12) w10 fun v21_13 =>
    xP Tryd.prog (sNil a0) fun v23_14 =>
    xP Tryd.prog (sFA 66 v23_14 1) fun v24_15 =>
    xR Tryd.prog (sLoad 63 v24_15) (w10.drew) fun v25_16 =>
    xP Tryd.prog (sIA 29 a2 (vs8.getD 0 undef)) fun v29_17 =>
    xR Tryd.prog (sLoad 32 v29_17) (w10.drew) fun v30_18 =>
    xE Tryd.prog (sCall 39 #[v25_16, v14_4, v30_18, v21_13]) (w10.drew) fun _ w20 =>
    xP Tryd.prog (sBin .add 3 (vs8.getD 0 undef) (.int .i64 1)) fun v33_21 =>
    J7 [v33_21] w20) (
      R (.returned v14_4) w10)
theorem C_code_Code_mix {a0 : Value} {a1 : Value} {a2 : Value} {w : World} {R : Ending → World → Prop} (h : S_code_Code_mix a0 a1 a2 w R) : Calls Tryd.prog 34 #[a0, a1, a2] w R :=
  funcVC_sound (an := A_code_Code_mix) (args := [a0, a1, a2]) (k := 3) Tryd.func34 (by kernel_rfl) rfl
    (Eq.mp (show S_code_Code_mix a0 a1 a2 w R = funcVC Tryd.prog Tryd.f34 A_code_Code_mix [a0, a1, a2] w R by kernel_rfl) h)

/-- (*stave/code.Code).chosen -/
def A_code_Code_chosen : Ann := (.seq .nil (.seq .nil (.seq .nil (.seq (.seq .nil (.one (.loop [5, 11] (.seq .nil (.seq .nil (.join [5] (.one (.seq .nil (.seq (.join [28] .nil .nil) .nil))) .nil)))))) .nil))))
def S_code_Code_chosen (a0 : Value) (a1 : Value) (w : World) (R : Ending → World → Prop) : Prop :=
  xE Tryd.prog (sAlloc 102) w fun v6_1 w2 =>
  xP Tryd.prog (sB .len #[48] #[a1]) fun v10_3 =>
  xLoop [(.slice none 0 0), (.int .i64 0)] w2 fun J4 vs5 _ w7 =>
    xP Tryd.prog (sBin .lss 3 (vs5.getD 1 undef) v10_3) fun v12_8 =>
    xIf v12_8 (
      xJoin (fun J9 =>
      xP Tryd.prog (sIA 48 a1 (vs5.getD 1 undef)) fun v13_10 =>
      xR Tryd.prog (sLoad 35 v13_10) w7 fun v14_11 =>
      xE Tryd.prog (sAlloc 35) w7 fun v8_12 w13 =>
      xE Tryd.prog (sStore 35 v8_12 v14_11) w13 fun _ w14 =>
      xJoin (fun J15 =>
        xP Tryd.prog (sFA 35 v8_12 0) fun v15_16 =>
        xR Tryd.prog (sLoad 3 v15_16) w14 fun v16_17 =>
        xP Tryd.prog (sIA 102 v6_1 v16_17) fun v17_18 =>
        xR Tryd.prog (sLoad 3 v17_18) w14 fun v18_19 =>
        xP Tryd.prog (sBin .gtr 3 v18_19 (.int .i64 0)) fun v19_20 =>
        xIf v19_20 (
        J15 [(.bool true)] w14) (
        xP Tryd.prog (sB .len #[48] #[(vs5.getD 0 undef)]) fun v22_21 =>
        xP Tryd.prog (sNil a0) fun v24_22 =>
        xP Tryd.prog (sFA 66 v24_22 0) fun v25_23 =>
        xR Tryd.prog (sLoad 3 v25_23) w14 fun v26_24 =>
        xR Tryd.prog (sEq .eql 3 false v22_21 v26_24) w14 fun v27_25 =>
        J15 [v27_25] w14)) fun vs26 _ w28 =>
      xIf (vs26.getD 0 undef) (
        J9 [(vs5.getD 0 undef)] w28) (
        xP Tryd.prog (sFA 35 v8_12 0) fun v29_29 =>
      xR Tryd.prog (sLoad 3 v29_29) w28 fun v30_30 =>
      xP Tryd.prog (sIA 102 v6_1 v30_30) fun v31_31 =>
      xE Tryd.prog (sStore 3 v31_31 (.int .i64 1)) w28 fun _ w32 =>
      xR Tryd.prog (sLoad 35 v8_12) w32 fun v33_33 =>
      xE Tryd.prog (sBuildSlice 48 1 #[(0, v33_33)]) w32 fun v34_34 w35 =>
      xE Tryd.prog (sB .append #[48, 48] #[(vs5.getD 0 undef), v34_34]) w35 fun v35_36 w37 =>
      J9 [v35_36] w37)) fun vs38 _ w40 =>
    xP Tryd.prog (sBin .add 3 (vs5.getD 1 undef) (.int .i64 1)) fun v36_41 =>
    J4 [(vs38.getD 0 undef), v36_41] w40) (
      R (.returned (vs5.getD 0 undef)) w7)
theorem C_code_Code_chosen {a0 : Value} {a1 : Value} {w : World} {R : Ending → World → Prop} (h : S_code_Code_chosen a0 a1 w R) : Calls Tryd.prog 35 #[a0, a1] w R :=
  funcVC_sound (an := A_code_Code_chosen) (args := [a0, a1]) (k := 2) Tryd.func35 (by kernel_rfl) rfl
    (Eq.mp (show S_code_Code_chosen a0 a1 w R = funcVC Tryd.prog Tryd.f35 A_code_Code_chosen [a0, a1] w R by kernel_rfl) h)

/-- (*stave/code.Code).solve -/
def A_code_Code_solve : Ann := (.seq .nil (.seq .nil (.seq (.seq .nil (.one (.loop [5, 6, 15] (.seq .nil (.seq .nil (.seq (.one (.seq .nil (.draw (.pre [0, 1, 2, 3, 4, 5, 6, 7, 8, 12, 13, 14, 9, 10, 11, 15, 16, 17, 18, 19] .nil) [0, 0, 2, 6, 14, 0, 32, 126, 254, 510, 1022, 2047, 0, 0, 8192, 28671, 61439, 131071, 262143, 524287]))) .nil)))))) (.seq (.seq .nil (.one (.loop [40] (.seq .nil (.seq .nil (.seq (.one (.seq .nil (.seq .nil (.seq (.one (.loop [10] (.seq (.join [58] .nil .nil) .nil))) (.seq (.draw (.pre [0, 1, 2, 3, 4, 5, 6, 7, 8, 9, 10, 11, 12, 13, 14, 15, 16, 17, 18, 19, 20, 21, 22, 23, 24, 25, 26, 27, 28, 29, 30, 31] .nil) [0, 0, 0, 0, 0, 0, 0, 0, 0, 0, 768, 1792, 0, 0, 12288, 28672, 0, 0, 196608, 458752, 0, 0, 3145728, 7340032, 16776963, 33554179, 67108623, 134217487, 268435263, 536870719, 1073741823, 2147483647]) (.seq (.draw (.pre [0, 1, 2, 3, 4, 5, 6, 7, 8, 9, 10, 11, 12, 13, 14, 15, 16, 17, 18, 19, 20, 21] .nil) [0, 0, 0, 6, 14, 0, 0, 96, 224, 0, 512, 1536, 3584, 0, 0, 24576, 57344, 0, 253952, 516096, 1048064, 2097151]) (.seq .nil (.one (.loop [113] (.seq .nil (.seq .nil (.join [] (.one (.seq .nil (.seq .nil (.join [129] .nil (.seq (.seq (.draw (.pre [0, 1, 2, 3, 4, 5, 6, 7, 8, 9, 10, 11, 12, 13] .nil) [0, 1, 3, 7, 0, 0, 48, 112, 0, 0, 768, 1792, 0, 8191]) (.draw (.pre [0, 1, 2, 3, 4, 5, 6, 7, 8, 9, 10, 11, 12, 13] .nil) [0, 1, 3, 7, 0, 0, 48, 112, 0, 0, 768, 1792, 0, 8191])) .nil))))) .nil)))))))))))) .nil)))))) .nil))))
def S_code_Code_solve (a0 : Value) (a1 : Value) (w : World) (R : Ending → World → Prop) : Prop :=
  xP Tryd.prog (sB .len #[48] #[a1]) fun v14_1 =>
  xLoop [(.slice none 0 0), (.slice none 0 0), (.int .i64 0)] w fun J2 vs3 _ w5 =>
    xP Tryd.prog (sBin .lss 3 (vs3.getD 2 undef) v14_1) fun v16_6 =>
    xIf v16_6 (
      xP Tryd.prog (sIA 48 a1 (vs3.getD 2 undef)) fun v17_7 =>
    xR Tryd.prog (sLoad 35 v17_7) w5 fun v18_8 =>
    xE Tryd.prog (sAlloc 35) w5 fun v8_9 w10 =>
    xE Tryd.prog (sStore 35 v8_9 v18_8) w10 fun _ w11 =>
    xP Tryd.prog (sNil a0) fun v21_12 =>
    xP Tryd.prog (sFA 66 v21_12 2) fun v22_13 =>
    xR Tryd.prog (sLoad 29 v22_13) (w11.drew) fun v23_14 =>
    xP Tryd.prog (sFA 35 v8_9 0) fun v24_15 =>
    xR Tryd.prog (sLoad 3 v24_15) (w11.drew) fun v25_16 =>
    xP Tryd.prog (sIA 29 v23_14 v25_16) fun v26_17 =>
    xR Tryd.prog (sLoad 32 v26_17) (w11.drew) fun v27_18 =>
    xP Tryd.prog (sFA 35 v8_9 1) fun v32_19 =>
    xR Tryd.prog (sLoad 32 v32_19) (w11.drew) fun v33_20 =>
    xE Tryd.prog (sCall 48 #[v27_18]) (w11.drew) fun v28_21 w22 =>
    xStill Tryd.prog (sLoad 32 v32_19) v33_20 w22 <|
    xE Tryd.prog (sBuildSlice 29 1 #[(0, v28_21)]) w22 fun v29_23 w24 =>
    xStill Tryd.prog (sLoad 32 v32_19) v33_20 w24 <|
    xE Tryd.prog (sB .append #[29, 29] #[(vs3.getD 0 undef), v29_23]) w24 fun v30_25 w26 =>
    xStill Tryd.prog (sLoad 32 v32_19) v33_20 w26 <|
    xE Tryd.prog (sCall 48 #[v33_20]) w26 fun v34_27 w28 =>
    xE Tryd.prog (sBuildSlice 29 1 #[(0, v34_27)]) w28 fun v35_29 w30 =>
    xE Tryd.prog (sB .append #[29, 29] #[(vs3.getD 1 undef), v35_29]) w30 fun v36_31 w32 =>
    xP Tryd.prog (sBin .add 3 (vs3.getD 2 undef) (.int .i64 1)) fun v37_33 =>
    J2 [v30_25, v36_31, v37_33] w32) (
      xP Tryd.prog (sB .len #[29] #[(vs3.getD 0 undef)]) fun v39_34 =>
  xLoop [(.int .i64 0)] w5 fun J35 vs36 _ w38 =>
    xP Tryd.prog (sBin .lss 3 (vs36.getD 0 undef) v39_34) fun v41_39 =>
    xIf v41_39 (
      xLoop [(vs36.getD 0 undef)] w38 fun J40 vs41 _ w43 =>
      xJoin (fun J44 =>
        xP Tryd.prog (sB .len #[29] #[(vs3.getD 0 undef)]) fun v46_45 =>
        xP Tryd.prog (sBin .sub 3 v46_45 (.int .i64 1)) fun v47_46 =>
        xP Tryd.prog (sBin .lss 3 (vs41.getD 0 undef) v47_46) fun v48_47 =>
        xIf v48_47 (
        xP Tryd.prog (sIA 29 (vs3.getD 0 undef) (vs41.getD 0 undef)) fun v52_48 =>
        xR Tryd.prog (sLoad 32 v52_48) w43 fun v53_49 =>
        xP Tryd.prog (sIA 32 v53_49 (vs36.getD 0 undef)) fun v55_50 =>
        xR Tryd.prog (sLoad 5 v55_50) w43 fun v56_51 =>
        xR Tryd.prog (sEq .eql 5 true v56_51 (.int .u8 0)) w43 fun v57_52 =>
        J44 [v57_52] w43) (
        J44 [(.bool false)] w43)) fun vs53 _ w55 =>
      xIf (vs53.getD 0 undef) (
        xP Tryd.prog (sBin .add 3 (vs41.getD 0 undef) (.int .i64 1)) fun v60_56 =>
      J40 [v60_56] w55) (
        xP Tryd.prog (sIA 29 (vs3.getD 0 undef) (vs41.getD 0 undef)) fun v71_57 =>
    xR Tryd.prog (sLoad 32 v71_57) (w55.drew) fun v72_58 =>
    xP Tryd.prog (sIA 29 (vs3.getD 0 undef) (vs36.getD 0 undef)) fun v75_59 =>
    xR Tryd.prog (sLoad 32 v75_59) (w55.drew) fun v76_60 =>
    xP Tryd.prog (sIA 29 (vs3.getD 1 undef) (vs41.getD 0 undef)) fun v79_61 =>
    xR Tryd.prog (sLoad 32 v79_61) (w55.drew) fun v80_62 =>
    xP Tryd.prog (sIA 29 (vs3.getD 1 undef) (vs36.getD 0 undef)) fun v83_63 =>
    xR Tryd.prog (sLoad 32 v83_63) (w55.drew) fun v84_64 =>
    xP Tryd.prog (sIA 29 (vs3.getD 0 undef) (vs36.getD 0 undef)) fun v85_65 =>
    xE Tryd.prog (sStore 32 v85_65 v72_58) (w55.drew) fun _ w66 =>
    xP Tryd.prog (sIA 29 (vs3.getD 0 undef) (vs41.getD 0 undef)) fun v86_67 =>
    xE Tryd.prog (sStore 32 v86_67 v76_60) w66 fun _ w68 =>
    xP Tryd.prog (sIA 29 (vs3.getD 1 undef) (vs36.getD 0 undef)) fun v87_69 =>
    xE Tryd.prog (sStore 32 v87_69 v80_62) w68 fun _ w70 =>
    xP Tryd.prog (sIA 29 (vs3.getD 1 undef) (vs41.getD 0 undef)) fun v88_71 =>
    xE Tryd.prog (sStore 32 v88_71 v84_64) w70 fun _ w72 =>
    xP Tryd.prog (sIA 29 (vs3.getD 0 undef) (vs36.getD 0 undef)) fun v92_73 =>
    xR Tryd.prog (sLoad 32 v92_73) (w72.drew) fun v93_74 =>
    xP Tryd.prog (sIA 29 (vs3.getD 1 undef) (vs36.getD 0 undef)) fun v96_75 =>
    xR Tryd.prog (sLoad 32 v96_75) (w72.drew) fun v97_76 =>
    xP Tryd.prog (sNil a0) fun v99_77 =>
    xP Tryd.prog (sFA 66 v99_77 1) fun v100_78 =>
    xR Tryd.prog (sLoad 63 v100_78) (w72.drew) fun v101_79 =>
    xP Tryd.prog (sIA 29 (vs3.getD 0 undef) (vs36.getD 0 undef)) fun v104_80 =>
    xR Tryd.prog (sLoad 32 v104_80) (w72.drew) fun v105_81 =>
    xP Tryd.prog (sIA 32 v105_81 (vs36.getD 0 undef)) fun v107_82 =>
    xR Tryd.prog (sLoad 5 v107_82) (w72.drew) fun v108_83 =>
    xE Tryd.prog (sCall 29 #[v101_79, v108_83]) (w72.drew) fun v109_84 w85 =>
    xStill Tryd.prog (sLoad 32 v96_75) v97_76 w85 <|
    xStill Tryd.prog (sLoad 32 v92_73) v93_74 w85 <|
    xE Tryd.prog (sCall 49 #[a0, v93_74, v97_76, v109_84]) w85 fun _ w87 =>
    xP Tryd.prog (sB .len #[29] #[(vs3.getD 0 undef)]) fun v112_88 =>
    xLoop [(.int .i64 0)] w87 fun J89 vs90 _ w92 =>
      xP Tryd.prog (sBin .lss 3 (vs90.getD 0 undef) v112_88) fun v114_93 =>
      xIf v114_93 (
        xJoin (fun J94 =>
        xP Tryd.prog (sIA 29 (vs3.getD 0 undef) (vs90.getD 0 undef)) fun v118_95 =>
        xR Tryd.prog (sLoad 32 v118_95) w92 fun v119_96 =>
        xP Tryd.prog (sIA 32 v119_96 (vs36.getD 0 undef)) fun v121_97 =>
        xR Tryd.prog (sLoad 5 v121_97) w92 fun v122_98 =>
        xJoin (fun J99 =>
          xR Tryd.prog (sEq .neq 3 false (vs90.getD 0 undef) (vs36.getD 0 undef)) w92 fun v125_100 =>
          xIf v125_100 (
          xR Tryd.prog (sEq .neq 5 true v122_98 (.int .u8 0)) w92 fun v128_101 =>
          J99 [v128_101] w92) (
          J99 [(.bool false)] w92)) fun vs102 _ w104 =>
        xIf (vs102.getD 0 undef) (
          xP Tryd.prog (sNil a0) fun v131_105 =>
          xP Tryd.prog (sFA 66 v131_105 1) fun v132_106 =>
          xR Tryd.prog (sLoad 63 v132_106) (w104.drew) fun v133_107 =>
          xP Tryd.prog (sIA 29 (vs3.getD 0 undef) (vs90.getD 0 undef)) fun v136_108 =>
          xR Tryd.prog (sLoad 32 v136_108) (w104.drew) fun v137_109 =>
          xP Tryd.prog (sIA 29 (vs3.getD 0 undef) (vs36.getD 0 undef)) fun v140_110 =>
          xR Tryd.prog (sLoad 32 v140_110) (w104.drew) fun v141_111 =>
          xE Tryd.prog (sCall 39 #[v133_107, v137_109, v141_111, v122_98]) (w104.drew) fun _ w113 =>
          xP Tryd.prog (sNil a0) fun v145_114 =>
          xP Tryd.prog (sFA 66 v145_114 1) fun v146_115 =>
          xR Tryd.prog (sLoad 63 v146_115) (w113.drew) fun v147_116 =>
          xP Tryd.prog (sIA 29 (vs3.getD 1 undef) (vs90.getD 0 undef)) fun v150_117 =>
          xR Tryd.prog (sLoad 32 v150_117) (w113.drew) fun v151_118 =>
          xP Tryd.prog (sIA 29 (vs3.getD 1 undef) (vs36.getD 0 undef)) fun v154_119 =>
          xR Tryd.prog (sLoad 32 v154_119) (w113.drew) fun v155_120 =>
          xE Tryd.prog (sCall 39 #[v147_116, v151_118, v155_120, v122_98]) (w113.drew) fun _ w122 =>
          J94 [] w122) (
          J94 [] w104)) fun _ _ w125 =>
      xP Tryd.prog (sBin .add 3 (vs90.getD 0 undef) (.int .i64 1)) fun v158_126 =>
      J89 [v158_126] w125) (
        xP Tryd.prog (sBin .add 3 (vs36.getD 0 undef) (.int .i64 1)) fun v159_127 =>
    J35 [v159_127] w92))) (
      R (.returned (vs3.getD 1 undef)) w38))
theorem C_code_Code_solve {a0 : Value} {a1 : Value} {w : World} {R : Ending → World → Prop} (h : S_code_Code_solve a0 a1 w R) : Calls Tryd.prog 36 #[a0, a1] w R :=
  funcVC_sound (an := A_code_Code_solve) (args := [a0, a1]) (k := 2) Tryd.func36 (by kernel_rfl) rfl
    (Eq.mp (show S_code_Code_solve a0 a1 w R = funcVC Tryd.prog Tryd.f36 A_code_Code_solve [a0, a1] w R by kernel_rfl) h)

/-- stave/staveref1.Row -/
def A_staveref1_Row : Ann := (.seq .nil (.seq (.join [28] .nil .nil) (.seq .nil (.seq (.seq .nil (.one (.loop [8] (.seq .nil (.join [] .nil .nil))))) .nil))))
def S_staveref1_Row (a0 : Value) (a1 : Value) (a2 : Value) (w : World) (R : Ending → World → Prop) : Prop :=
  xJoin (fun J1 =>
    xP Tryd.prog (sBin .lss 3 a0 (.int .i64 1)) fun v10_2 =>
    xIf v10_2 (
    J1 [(.bool true)] w) (
    xP Tryd.prog (sBin .gtr 3 a0 a1) fun v14_3 =>
    xIf v14_3 (
    J1 [(.bool true)] w) (
    xP Tryd.prog (sBin .gtr 3 a1 (.int .i64 8)) fun v18_4 =>
    xIf v18_4 (
    J1 [(.bool true)] w) (
    xP Tryd.prog (sBin .lss 3 a2 (.int .i64 0)) fun v22_5 =>
    xIf v22_5 (
    J1 [(.bool true)] w) (
    xP Tryd.prog (sBin .geq 3 a2 a1) fun v27_6 =>
    J1 [v27_6] w))))) fun vs7 _ w9 =>
  xIf (vs7.getD 0 undef) (
    R (.returned (.slice none 0 0)) w9) (
    xE Tryd.prog (sMakeSlice 32 a0 a0) w9 fun v30_10 w11 =>
  xLoop [(.int .i64 0)] w11 fun J12 vs13 _ w15 =>
    xP Tryd.prog (sBin .lss 3 (vs13.getD 0 undef) a0) fun v33_16 =>
    xIf v33_16 (
      xJoin (fun J17 =>
      xP Tryd.prog (sBin .lss 3 a2 a0) fun v38_18 =>
      xIf v38_18 (
        xR Tryd.prog (sEq .eql 3 false (vs13.getD 0 undef) a2) w15 fun v41_19 =>
        xIf v41_19 (
          xP Tryd.prog (sIA 32 v30_10 (vs13.getD 0 undef)) fun v44_20 =>
          xE Tryd.prog (sStore 5 v44_20 (.int .u8 1)) w15 fun _ w21 =>
          J17 [] w21) (
          J17 [] w15)) (
        xP Tryd.prog (sBin .xor 3 a2 (vs13.getD 0 undef)) fun v49_22 =>
        xP Tryd.prog (sConv 3 5 v49_22) fun v50_23 =>
        xE Tryd.prog (sCall 17 #[v50_23]) w15 fun v51_24 w25 =>
        xP Tryd.prog (sIA 32 v30_10 (vs13.getD 0 undef)) fun v52_26 =>
        xE Tryd.prog (sStore 5 v52_26 v51_24) w25 fun _ w27 =>
        J17 [] w27)) fun _ _ w30 =>
    xP Tryd.prog (sBin .add 3 (vs13.getD 0 undef) (.int .i64 1)) fun v35_31 =>
    J12 [v35_31] w30) (
      R (.returned v30_10) w15))
theorem C_staveref1_Row {a0 : Value} {a1 : Value} {a2 : Value} {w : World} {R : Ending → World → Prop} (h : S_staveref1_Row a0 a1 a2 w R) : Calls Tryd.prog 37 #[a0, a1, a2] w R :=
  funcVC_sound (an := A_staveref1_Row) (args := [a0, a1, a2]) (k := 3) Tryd.func37 (by kernel_rfl) rfl
    (Eq.mp (show S_staveref1_Row a0 a1 a2 w R = funcVC Tryd.prog Tryd.f37 A_staveref1_Row [a0, a1, a2] w R by kernel_rfl) h)

/-- stave/staveref1.Invert -/
def A_staveref1_Invert : Ann := (.seq .nil (.seq .nil (.seq .nil (.seq (.seq .nil (.one (.loop [4, 5] .nil))) (.seq (.seq .nil (.one (.loop [7] (.seq .nil (.seq (.one (.seq .nil (.seq (.one (.loop [8] (.seq (.join [58] .nil .nil) .nil))) (.seq .nil (.seq (.draw (.pre [0, 1, 2, 3, 4, 5, 6, 7, 8, 9, 10, 11, 12, 13, 14, 15] .nil) [0, 0, 0, 0, 0, 0, 48, 112, 0, 0, 768, 1792, 4083, 8179, 16383, 32767]) (.seq .nil (.seq (.seq .nil (.one (.loop [91] (.seq .nil (.seq .nil (.seq (.one (.seq .nil (.draw (.pre [0, 1, 2, 3, 4, 5, 6, 7, 8, 9, 10, 11, 12, 13, 14, 15] .nil) [0, 0, 3, 7, 0, 0, 0, 96, 224, 0, 992, 2016, 0, 8160, 16383, 32767]))) .nil)))))) (.seq .nil (.one (.loop [11] (.seq .nil (.join [] (.one (.seq .nil (.seq (.join [128] .nil .nil) (.seq .nil (.one (.loop [134] (.seq .nil (.seq .nil (.seq (.one (.seq .nil (.draw (.pre [0, 1, 2, 3, 4, 5, 6, 7, 8, 9, 10, 11, 12, 13, 14, 15, 16, 17, 18, 19, 20, 21, 22, 23] .nil) [0, 0, 3, 7, 0, 0, 0, 96, 224, 0, 992, 2016, 0, 0, 0, 24576, 57344, 0, 253952, 516096, 1044480, 2097120, 4194303, 8388607]))) .nil))))))))) .nil)))))))))))) .nil))))) (.seq .nil (.seq (.seq .nil (.one (.loop [14, 15] .nil))) .nil)))))))
def S_staveref1_Invert (a0 : Value) (w : World) (R : Ending → World → Prop) : Prop :=
  xP Tryd.prog (sB .len #[29] #[a0]) fun v17_1 =>
  xLoop [(.slice none 0 0), (.int .i64 0)] w fun J2 vs3 _ w5 =>
    xP Tryd.prog (sBin .lss 3 (vs3.getD 1 undef) v17_1) fun v20_6 =>
    xIf v20_6 (
      xE Tryd.prog (sBuildSlice 32 0 #[]) w5 fun v23_7 w8 =>
    xP Tryd.prog (sIA 29 a0 (vs3.getD 1 undef)) fun v26_9 =>
    xR Tryd.prog (sLoad 32 v26_9) w8 fun v27_10 =>
    xE Tryd.prog (sB .append #[32, 32] #[v23_7, v27_10]) w8 fun v28_11 w12 =>
    xE Tryd.prog (sB .append #[32, 3] #[v28_11, v17_1]) w12 fun v30_13 w14 =>
    xP Tryd.prog (sBin .add 3 v17_1 (vs3.getD 1 undef)) fun v34_15 =>
    xP Tryd.prog (sIA 32 v30_13 v34_15) fun v35_16 =>
    xE Tryd.prog (sStore 5 v35_16 (.int .u8 1)) w14 fun _ w17 =>
    xE Tryd.prog (sBuildSlice 29 1 #[(0, v30_13)]) w17 fun v38_18 w19 =>
    xE Tryd.prog (sB .append #[29, 29] #[(vs3.getD 0 undef), v38_18]) w19 fun v39_20 w21 =>
    xP Tryd.prog (sBin .add 3 (vs3.getD 1 undef) (.int .i64 1)) fun v22_22 =>
    J2 [v39_20, v22_22] w21) (
      xLoop [(.int .i64 0)] w5 fun J23 vs24 _ w26 =>
    xP Tryd.prog (sBin .lss 3 (vs24.getD 0 undef) v17_1) fun v42_27 =>
    xIf v42_27 (
      xLoop [(vs24.getD 0 undef)] w26 fun J28 vs29 _ w31 =>
      xJoin (fun J32 =>
        xP Tryd.prog (sBin .lss 3 (vs29.getD 0 undef) v17_1) fun v48_33 =>
        xIf v48_33 (
        xP Tryd.prog (sIA 29 (vs3.getD 0 undef) (vs29.getD 0 undef)) fun v52_34 =>
        xR Tryd.prog (sLoad 32 v52_34) w31 fun v53_35 =>
        xP Tryd.prog (sIA 32 v53_35 (vs24.getD 0 undef)) fun v55_36 =>
        xR Tryd.prog (sLoad 5 v55_36) w31 fun v56_37 =>
        xR Tryd.prog (sEq .eql 5 true v56_37 (.int .u8 0)) w31 fun v57_38 =>
        J32 [v57_38] w31) (
        J32 [(.bool false)] w31)) fun vs39 _ w41 =>
      xIf (vs39.getD 0 undef) (
        xP Tryd.prog (sBin .add 3 (vs29.getD 0 undef) (.int .i64 1)) fun v60_42 =>
      J28 [v60_42] w41) (
        xR Tryd.prog (sEq .eql 3 false (vs29.getD 0 undef) v17_1) w41 fun v63_43 =>
    xIf v63_43 (
      R (.returned (.slice none 0 0)) w41) (
      xP Tryd.prog (sIA 29 (vs3.getD 0 undef) (vs29.getD 0 undef)) fun v70_44 =>
    xR Tryd.prog (sLoad 32 v70_44) (w41.drew) fun v71_45 =>
    xP Tryd.prog (sIA 29 (vs3.getD 0 undef) (vs24.getD 0 undef)) fun v74_46 =>
    xR Tryd.prog (sLoad 32 v74_46) (w41.drew) fun v75_47 =>
    xP Tryd.prog (sIA 29 (vs3.getD 0 undef) (vs24.getD 0 undef)) fun v76_48 =>
    xE Tryd.prog (sStore 32 v76_48 v71_45) (w41.drew) fun _ w49 =>
    xP Tryd.prog (sIA 29 (vs3.getD 0 undef) (vs29.getD 0 undef)) fun v77_50 =>
    xE Tryd.prog (sStore 32 v77_50 v75_47) w49 fun _ w51 =>
    xP Tryd.prog (sIA 29 (vs3.getD 0 undef) (vs24.getD 0 undef)) fun v80_52 =>
    xR Tryd.prog (sLoad 32 v80_52) w51 fun v81_53 =>
    xP Tryd.prog (sIA 32 v81_53 (vs24.getD 0 undef)) fun v83_54 =>
    xR Tryd.prog (sLoad 5 v83_54) w51 fun v84_55 =>
    xE Tryd.prog (sCall 17 #[v84_55]) w51 fun v85_56 w57 =>
    xP Tryd.prog (sIA 29 (vs3.getD 0 undef) (vs24.getD 0 undef)) fun v88_58 =>
    xR Tryd.prog (sLoad 32 v88_58) w57 fun v89_59 =>
    xP Tryd.prog (sB .len #[32] #[v89_59]) fun v90_60 =>
    xLoop [(.int .i64 0)] w57 fun J61 vs62 _ w64 =>
      xP Tryd.prog (sBin .lss 3 (vs62.getD 0 undef) v90_60) fun v92_65 =>
      xIf v92_65 (
        xP Tryd.prog (sIA 29 (vs3.getD 0 undef) (vs24.getD 0 undef)) fun v96_66 =>
      xR Tryd.prog (sLoad 32 v96_66) (w64.drew) fun v97_67 =>
      xP Tryd.prog (sIA 29 (vs3.getD 0 undef) (vs24.getD 0 undef)) fun v101_68 =>
      xR Tryd.prog (sLoad 32 v101_68) (w64.drew) fun v102_69 =>
      xP Tryd.prog (sIA 32 v102_69 (vs62.getD 0 undef)) fun v104_70 =>
      xR Tryd.prog (sLoad 5 v104_70) (w64.drew) fun v105_71 =>
      xE Tryd.prog (sCall 18 #[v105_71, v85_56]) (w64.drew) fun v107_72 w73 =>
      xStill Tryd.prog (sLoad 32 v96_66) v97_67 w73 <|
      xP Tryd.prog (sIA 32 v97_67 (vs62.getD 0 undef)) fun v108_74 =>
      xE Tryd.prog (sStore 5 v108_74 v107_72) w73 fun _ w75 =>
      xP Tryd.prog (sBin .add 3 (vs62.getD 0 undef) (.int .i64 1)) fun v109_76 =>
      J61 [v109_76] w75) (
        xLoop [(.int .i64 0)] w64 fun J77 vs78 _ w80 =>
      xP Tryd.prog (sBin .lss 3 (vs78.getD 0 undef) v17_1) fun v112_81 =>
      xIf v112_81 (
        xJoin (fun J82 =>
        xP Tryd.prog (sIA 29 (vs3.getD 0 undef) (vs78.getD 0 undef)) fun v117_83 =>
        xR Tryd.prog (sLoad 32 v117_83) w80 fun v118_84 =>
        xP Tryd.prog (sIA 32 v118_84 (vs24.getD 0 undef)) fun v120_85 =>
        xR Tryd.prog (sLoad 5 v120_85) w80 fun v121_86 =>
        xJoin (fun J87 =>
          xR Tryd.prog (sEq .eql 3 false (vs78.getD 0 undef) (vs24.getD 0 undef)) w80 fun v124_88 =>
          xIf v124_88 (
          J87 [(.bool true)] w80) (
          xR Tryd.prog (sEq .eql 5 true v121_86 (.int .u8 0)) w80 fun v127_89 =>
          J87 [v127_89] w80)) fun vs90 _ w92 =>
        xIf (vs90.getD 0 undef) (
          J82 [] w92) (
          xP Tryd.prog (sIA 29 (vs3.getD 0 undef) (vs78.getD 0 undef)) fun v131_93 =>
        xR Tryd.prog (sLoad 32 v131_93) w92 fun v132_94 =>
        xP Tryd.prog (sB .len #[32] #[v132_94]) fun v133_95 =>
        xLoop [(.int .i64 0)] w92 fun J96 vs97 _ w99 =>
          xP Tryd.prog (sBin .lss 3 (vs97.getD 0 undef) v133_95) fun v135_100 =>
          xIf v135_100 (
            xP Tryd.prog (sIA 29 (vs3.getD 0 undef) (vs78.getD 0 undef)) fun v139_101 =>
          xR Tryd.prog (sLoad 32 v139_101) (w99.drew) fun v140_102 =>
          xP Tryd.prog (sIA 29 (vs3.getD 0 undef) (vs78.getD 0 undef)) fun v144_103 =>
          xR Tryd.prog (sLoad 32 v144_103) (w99.drew) fun v145_104 =>
          xP Tryd.prog (sIA 32 v145_104 (vs97.getD 0 undef)) fun v147_105 =>
          xR Tryd.prog (sLoad 5 v147_105) (w99.drew) fun v148_106 =>
          xP Tryd.prog (sIA 29 (vs3.getD 0 undef) (vs24.getD 0 undef)) fun v152_107 =>
          xR Tryd.prog (sLoad 32 v152_107) (w99.drew) fun v153_108 =>
          xP Tryd.prog (sIA 32 v153_108 (vs97.getD 0 undef)) fun v155_109 =>
          xR Tryd.prog (sLoad 5 v155_109) (w99.drew) fun v156_110 =>
          xE Tryd.prog (sCall 18 #[v121_86, v156_110]) (w99.drew) fun v157_111 w112 =>
          xStill Tryd.prog (sLoad 5 v147_105) v148_106 w112 <|
          xStill Tryd.prog (sLoad 32 v144_103) v145_104 w112 <|
          xStill Tryd.prog (sLoad 32 v139_101) v140_102 w112 <|
          xP Tryd.prog (sBin .xor 5 v148_106 v157_111) fun v158_113 =>
          xP Tryd.prog (sIA 32 v140_102 (vs97.getD 0 undef)) fun v159_114 =>
          xE Tryd.prog (sStore 5 v159_114 v158_113) w112 fun _ w115 =>
          xP Tryd.prog (sBin .add 3 (vs97.getD 0 undef) (.int .i64 1)) fun v160_116 =>
          J96 [v160_116] w115) (
            J82 [] w99))) fun _ _ w119 =>
      xP Tryd.prog (sBin .add 3 (vs78.getD 0 undef) (.int .i64 1)) fun v114_120 =>
      J77 [v114_120] w119) (
        xP Tryd.prog (sBin .add 3 (vs24.getD 0 undef) (.int .i64 1)) fun v44_121 =>
    J23 [v44_121] w80))))) (
      xLoop [(.slice none 0 0), (.int .i64 0)] w26 fun J122 vs123 _ w125 =>
    xP Tryd.prog (sBin .lss 3 (vs123.getD 1 undef) v17_1) fun v163_126 =>
    xIf v163_126 (
      xP Tryd.prog (sIA 29 (vs3.getD 0 undef) (vs123.getD 1 undef)) fun v169_127 =>
    xR Tryd.prog (sLoad 32 v169_127) w125 fun v170_128 =>
    xP Tryd.prog (sSlice 32 v170_128 (some v17_1) none none) fun v172_129 =>
    xE Tryd.prog (sBuildSlice 29 1 #[(0, v172_129)]) w125 fun v173_130 w131 =>
    xE Tryd.prog (sB .append #[29, 29] #[(vs123.getD 0 undef), v173_130]) w131 fun v174_132 w133 =>
    xP Tryd.prog (sBin .add 3 (vs123.getD 1 undef) (.int .i64 1)) fun v165_134 =>
    J122 [v174_132, v165_134] w133) (
      R (.returned (vs123.getD 0 undef)) w125)))
theorem C_staveref1_Invert {a0 : Value} {w : World} {R : Ending → World → Prop} (h : S_staveref1_Invert a0 w R) : Calls Tryd.prog 38 #[a0] w R :=
  funcVC_sound (an := A_staveref1_Invert) (args := [a0]) (k := 1) Tryd.func38 (by kernel_rfl) rfl
    (Eq.mp (show S_staveref1_Invert a0 w R = funcVC Tryd.prog Tryd.f38 A_staveref1_Invert [a0] w R by kernel_rfl) h)

/-- (*stave/gf.Field).Add -/
def A_gf_Field_Add : Ann := (.seq .nil (.one (.loop [14] (.seq .nil (.seq .nil (.seq (.one (.seq .nil (.draw (.pre [0, 1, 2, 3, 4, 5, 6, 7, 8, 9, 10, 11, 12, 13] .nil) [0, 0, 3, 7, 0, 0, 0, 0, 192, 448, 1008, 2047, 4095, 8191]))) .nil))))))
def S_gf_Field_Add (a0 : Value) (a1 : Value) (a2 : Value) (a3 : Value) (w : World) (R : Ending → World → Prop) : Prop :=
  xP Tryd.prog (sB .len #[32] #[a1]) fun v10_1 =>
  xP Tryd.prog (sB .len #[32] #[a2]) fun v12_2 =>
  xP Tryd.prog (sB .min #[3, 3] #[v10_1, v12_2]) fun v13_3 =>
  xLoop [(.int .i64 0)] w fun J4 vs5 _ w7 =>
    xP Tryd.prog (sBin .lss 3 (vs5.getD 0 undef) v13_3) fun v15_8 =>
    xIf v15_8 (
      xP Tryd.prog (sIA 32 a1 (vs5.getD 0 undef)) fun v19_9 =>
    xR Tryd.prog (sLoad 5 v19_9) (w7.drew) fun v20_10 =>
    xP Tryd.prog (sIA 32 a2 (vs5.getD 0 undef)) fun v25_11 =>
    xR Tryd.prog (sLoad 5 v25_11) (w7.drew) fun v26_12 =>
    xE Tryd.prog (sCall 50 #[a0, a3, v26_12]) (w7.drew) fun v27_13 w14 =>
    xStill Tryd.prog (sLoad 5 v19_9) v20_10 w14 <|
    xP Tryd.prog (sBin .xor 5 v20_10 v27_13) fun v28_15 =>
    xP Tryd.prog (sIA 32 a1 (vs5.getD 0 undef)) fun v29_16 =>
    xE Tryd.prog (sStore 5 v29_16 v28_15) w14 fun _ w17 =>
    xP Tryd.prog (sBin .add 3 (vs5.getD 0 undef) (.int .i64 1)) fun v30_18 =>
    J4 [v30_18] w17) (
      R (.returned (.tuple #[])) w7)
theorem C_gf_Field_Add {a0 : Value} {a1 : Value} {a2 : Value} {a3 : Value} {w : World} {R : Ending → World → Prop} (h : S_gf_Field_Add a0 a1 a2 a3 w R) : Calls Tryd.prog 39 #[a0, a1, a2, a3] w R :=
  funcVC_sound (an := A_gf_Field_Add) (args := [a0, a1, a2, a3]) (k := 4) Tryd.func39 (by kernel_rfl) rfl
    (Eq.mp (show S_gf_Field_Add a0 a1 a2 a3 w R = funcVC Tryd.prog Tryd.f39 A_gf_Field_Add [a0, a1, a2, a3] w R by kernel_rfl) h)

/-- stave/fault.faults -/
def A_fault_faults : Ann := (.seq .nil (.seq .nil (.seq .nil (.seq (.one (.loop [0, 3] .nil)) .nil))))
def S_fault_faults (a0 : Value) (w : World) (R : Ending → World → Prop) : Prop :=
  xE Tryd.prog (sAlloc 82) w fun v4_1 w2 =>
  xLoop [a0, (.slice none 0 0)] w2 fun J3 vs4 _ w6 =>
    xP Tryd.prog (sIface 104 v4_1) fun v6_7 =>
    xE Tryd.prog (sCall 30 #[(vs4.getD 0 undef), v6_7]) w6 fun v7_8 w9 =>
    xIf v7_8 (
      xR Tryd.prog (sLoad 82 v4_1) w9 fun v9_10 =>
    xE Tryd.prog (sBuildSlice 79 1 #[(0, v9_10)]) w9 fun v10_11 w12 =>
    xE Tryd.prog (sB .append #[79, 79] #[(vs4.getD 1 undef), v10_11]) w12 fun v11_13 w14 =>
    xP Tryd.prog (sFA 82 v4_1 2) fun v12_15 =>
    xR Tryd.prog (sLoad 24 v12_15) w14 fun v13_16 =>
    J3 [v13_16, v11_13] w14) (
      R (.returned (vs4.getD 1 undef)) w9)
theorem C_fault_faults {a0 : Value} {w : World} {R : Ending → World → Prop} (h : S_fault_faults a0 w R) : Calls Tryd.prog 40 #[a0] w R :=
  funcVC_sound (an := A_fault_faults) (args := [a0]) (k := 1) Tryd.func40 (by kernel_rfl) rfl
    (Eq.mp (show S_fault_faults a0 w R = funcVC Tryd.prog Tryd.f40 A_fault_faults [a0] w R by kernel_rfl) h)

/-- errors.as -/
def A_errors_as : Ann := (.seq .nil (.one (.loop [0] (.one (.seq .nil (.seq (.seq .nil (.join [35] .nil .nil)) (.seq .nil (.one (.seq .nil (.seq .nil (.seq .nil (.seq (.seq .nil (.seq (.seq .nil (.one (.loop [50] (.seq .nil (.seq .nil (.join [] .nil .nil)))))) .nil)) .nil))))))))))))
def S_errors_as (a0 : Value) (a1 : Value) (a2 : Value) (a3 : Value) (w : World) (R : Ending → World → Prop) : Prop :=
  xE Tryd.prog (sBox 90 a2) w fun v6_1 w2 =>
  xLoop [a0] w2 fun J3 vs4 _ w6 =>
    xE Tryd.prog (sCall 45 #[(vs4.getD 0 undef)]) w6 fun v17_7 w8 =>
    xE Tryd.prog (sInvoke "AssignableTo" #[v17_7, a3]) w8 fun v19_9 w10 =>
    xIf v19_9 (
      xR Tryd.prog (sLoad 90 v6_1) w10 fun v20_11 =>
      xE Tryd.prog (sCall 51 #[v20_11]) w10 fun v21_12 w13 =>
      xE Tryd.prog (sCall 41 #[(vs4.getD 0 undef)]) w13 fun v23_14 w15 =>
      xE Tryd.prog (sCall 52 #[v21_12, v23_14]) w15 fun _ w17 =>
      R (.returned (.bool true)) w17) (
      xP Tryd.prog (sAssert (vs4.getD 0 undef) 24 110 true) fun v27_18 =>
    xP Tryd.prog (sExtract v27_18 0) fun v28_19 =>
    xP Tryd.prog (sExtract v27_18 1) fun v29_20 =>
    xJoin (fun J21 =>
      xIf v29_20 (
      xE Tryd.prog (sInvoke "As" #[v28_19, a1]) w10 fun v34_22 w23 =>
      J21 [v34_22] w23) (
      J21 [(.bool false)] w10)) fun vs24 _ w26 =>
    xIf (vs24.getD 0 undef) (
      R (.returned (.bool true)) w26) (
      xP Tryd.prog (sAssert (vs4.getD 0 undef) 24 113 true) fun v37_27 =>
    xP Tryd.prog (sExtract v37_27 1) fun v38_28 =>
    xP Tryd.prog (sExtract v37_27 0) fun v39_29 =>
    xIf v38_28 (
      xE Tryd.prog (sInvoke "Unwrap" #[v39_29]) w26 fun v41_30 w31 =>
      xR Tryd.prog (sEq .eql 24 true v41_30 (.nilIface)) w31 fun v43_32 =>
      xIf v43_32 (
        R (.returned (.bool false)) w31) (
        J3 [v41_30] w31)) (
      xP Tryd.prog (sAssert (vs4.getD 0 undef) 24 115 true) fun v44_33 =>
      xP Tryd.prog (sExtract v44_33 1) fun v45_34 =>
      xP Tryd.prog (sExtract v44_33 0) fun v46_35 =>
      xIf v45_34 (
        xE Tryd.prog (sInvoke "Unwrap" #[v46_35]) w26 fun v48_36 w37 =>
        xP Tryd.prog (sB .len #[116] #[v48_36]) fun v49_38 =>
        xLoop [(.int .i64 0)] w37 fun J39 vs40 _ w42 =>
          xP Tryd.prog (sBin .lss 3 (vs40.getD 0 undef) v49_38) fun v51_43 =>
          xIf v51_43 (
            xJoin (fun J44 =>
            xP Tryd.prog (sIA 116 v48_36 (vs40.getD 0 undef)) fun v52_45 =>
            xR Tryd.prog (sLoad 24 v52_45) w42 fun v53_46 =>
            xR Tryd.prog (sEq .eql 24 true v53_46 (.nilIface)) w42 fun v55_47 =>
            xIf v55_47 (
              J44 [] w42) (
              xR Tryd.prog (sLoad 90 v6_1) w42 fun v58_48 =>
            xE Tryd.prog (sCall 44 #[v53_46, a1, v58_48, a3]) w42 fun v60_49 w50 =>
            xIf v60_49 (
              R (.returned (.bool true)) w50) (
              J44 [] w50))) fun _ _ w53 =>
          xP Tryd.prog (sBin .add 3 (vs40.getD 0 undef) (.int .i64 1)) fun v61_54 =>
          J39 [v61_54] w53) (
            R (.returned (.bool false)) w42)) (
        R (.returned (.bool false)) w26))))
theorem C_errors_as {a0 : Value} {a1 : Value} {a2 : Value} {a3 : Value} {w : World} {R : Ending → World → Prop} (h : S_errors_as a0 a1 a2 a3 w R) : Calls Tryd.prog 44 #[a0, a1, a2, a3] w R :=
  funcVC_sound (an := A_errors_as) (args := [a0, a1, a2, a3]) (k := 4) Tryd.func44 (by kernel_rfl) rfl
    (Eq.mp (show S_errors_as a0 a1 a2 a3 w R = funcVC Tryd.prog Tryd.f44 A_errors_as [a0, a1, a2, a3] w R by kernel_rfl) h)

/-- errors.is -/
def A_errors_is : Ann := (.seq .nil (.one (.loop [0] (.one (.seq (.join [19] .nil .nil) (.seq (.seq .nil (.join [30] .nil .nil)) (.seq .nil (.one (.seq .nil (.seq .nil (.seq .nil (.seq (.seq .nil (.seq (.seq .nil (.one (.loop [45] .nil))) .nil)) .nil))))))))))))
def S_errors_is (a0 : Value) (a1 : Value) (a2 : Value) (w : World) (R : Ending → World → Prop) : Prop :=
  xLoop [a0] w fun J1 vs2 _ w4 =>
    xJoin (fun J5 =>
      xIf a2 (
      xR Tryd.prog (sEq .eql 24 false (vs2.getD 0 undef) a1) w4 fun v18_6 =>
      J5 [v18_6] w4) (
      J5 [(.bool false)] w4)) fun vs7 _ w9 =>
    xIf (vs7.getD 0 undef) (
      R (.returned (.bool true)) w9) (
      xP Tryd.prog (sAssert (vs2.getD 0 undef) 24 118 true) fun v22_10 =>
    xP Tryd.prog (sExtract v22_10 0) fun v23_11 =>
    xP Tryd.prog (sExtract v22_10 1) fun v24_12 =>
    xJoin (fun J13 =>
      xIf v24_12 (
      xE Tryd.prog (sInvoke "Is" #[v23_11, a1]) w9 fun v29_14 w15 =>
      J13 [v29_14] w15) (
      J13 [(.bool false)] w9)) fun vs16 _ w18 =>
    xIf (vs16.getD 0 undef) (
      R (.returned (.bool true)) w18) (
      xP Tryd.prog (sAssert (vs2.getD 0 undef) 24 113 true) fun v32_19 =>
    xP Tryd.prog (sExtract v32_19 1) fun v33_20 =>
    xP Tryd.prog (sExtract v32_19 0) fun v34_21 =>
    xIf v33_20 (
      xE Tryd.prog (sInvoke "Unwrap" #[v34_21]) w18 fun v36_22 w23 =>
      xR Tryd.prog (sEq .eql 24 true v36_22 (.nilIface)) w23 fun v38_24 =>
      xIf v38_24 (
        R (.returned (.bool false)) w23) (
        J1 [v36_22] w23)) (
      xP Tryd.prog (sAssert (vs2.getD 0 undef) 24 115 true) fun v39_25 =>
      xP Tryd.prog (sExtract v39_25 1) fun v40_26 =>
      xP Tryd.prog (sExtract v39_25 0) fun v41_27 =>
      xIf v40_26 (
        xE Tryd.prog (sInvoke "Unwrap" #[v41_27]) w18 fun v43_28 w29 =>
        xP Tryd.prog (sB .len #[116] #[v43_28]) fun v44_30 =>
        xLoop [(.int .i64 0)] w29 fun J31 vs32 _ w34 =>
          xP Tryd.prog (sBin .lss 3 (vs32.getD 0 undef) v44_30) fun v46_35 =>
          xIf v46_35 (
            xP Tryd.prog (sIA 116 v43_28 (vs32.getD 0 undef)) fun v47_36 =>
          xR Tryd.prog (sLoad 24 v47_36) w34 fun v48_37 =>
          xE Tryd.prog (sCall 46 #[v48_37, a1, a2]) w34 fun v52_38 w39 =>
          xIf v52_38 (
            R (.returned (.bool true)) w39) (
            xP Tryd.prog (sBin .add 3 (vs32.getD 0 undef) (.int .i64 1)) fun v53_40 =>
          J31 [v53_40] w39)) (
            R (.returned (.bool false)) w34)) (
        R (.returned (.bool false)) w18))))
theorem C_errors_is {a0 : Value} {a1 : Value} {a2 : Value} {w : World} {R : Ending → World → Prop} (h : S_errors_is a0 a1 a2 w R) : Calls Tryd.prog 46 #[a0, a1, a2] w R :=
  funcVC_sound (an := A_errors_is) (args := [a0, a1, a2]) (k := 3) Tryd.func46 (by kernel_rfl) rfl
    (Eq.mp (show S_errors_is a0 a1 a2 w R = funcVC Tryd.prog Tryd.f46 A_errors_is [a0, a1, a2] w R by kernel_rfl) h)

/-- slices.IndexFunc[[][]byte,[]byte] -/
def A_slices_IndexFunc_Lbyte : Ann := (.seq .nil (.seq (.seq .nil (.one (.loop [8] .nil))) .nil))
def S_slices_IndexFunc_Lbyte (a0 : Value) (a1 : Value) (w : World) (R : Ending → World → Prop) : Prop :=
  xP Tryd.prog (sB .len #[29] #[a0]) fun v7_1 =>
  xLoop [(.int .i64 0)] w fun J2 vs3 _ w5 =>
    xP Tryd.prog (sBin .lss 3 (vs3.getD 0 undef) v7_1) fun v9_6 =>
    xIf v9_6 (
      xP Tryd.prog (sIA 29 a0 (vs3.getD 0 undef)) fun v14_7 =>
    xR Tryd.prog (sLoad 32 v14_7) w5 fun v15_8 =>
    xE Tryd.prog (sCallV a1 #[v15_8]) w5 fun v16_9 w10 =>
    xIf v16_9 (
      R (.returned (vs3.getD 0 undef)) w10) (
      xP Tryd.prog (sBin .add 3 (vs3.getD 0 undef) (.int .i64 1)) fun v18_11 =>
    J2 [v18_11] w10)) (
      R (.returned (.int .i64 (-1))) w5)
theorem C_slices_IndexFunc_Lbyte {a0 : Value} {a1 : Value} {w : World} {R : Ending → World → Prop} (h : S_slices_IndexFunc_Lbyte a0 a1 w R) : Calls Tryd.prog 47 #[a0, a1] w R :=
  funcVC_sound (an := A_slices_IndexFunc_Lbyte) (args := [a0, a1]) (k := 2) Tryd.func47 (by kernel_rfl) rfl
    (Eq.mp (show S_slices_IndexFunc_Lbyte a0 a1 w R = funcVC Tryd.prog Tryd.f47 A_slices_IndexFunc_Lbyte [a0, a1] w R by kernel_rfl) h)

/-- slices.Clone[[]byte,byte] -/
def A_slices_Clone_byte : Ann := .nil
def S_slices_Clone_byte (a0 : Value) (w : World) (R : Ending → World → Prop) : Prop :=
  xR Tryd.prog (sEq .eql 32 true a0 (.slice none 0 0)) w fun v4_1 =>
  xIf v4_1 (
    R (.returned (.slice none 0 0)) w) (
    xE Tryd.prog (sBuildSlice 32 0 #[]) w fun v5_2 w3 =>
  xE Tryd.prog (sB .append #[32, 32] #[v5_2, a0]) w3 fun v7_4 w5 =>
  R (.returned v7_4) w5)
theorem C_slices_Clone_byte {a0 : Value} {w : World} {R : Ending → World → Prop} (h : S_slices_Clone_byte a0 w R) : Calls Tryd.prog 48 #[a0] w R :=
  funcVC_sound (an := A_slices_Clone_byte) (args := [a0]) (k := 1) Tryd.func48 (by kernel_rfl) rfl
    (Eq.mp (show S_slices_Clone_byte a0 w R = funcVC Tryd.prog Tryd.f48 A_slices_Clone_byte [a0] w R by kernel_rfl) h)

/-- (*stave/code.Code).scale -/
def A_code_Code_scale : Ann := (.seq (.seq .nil (.one (.loop [12] (.seq .nil (.seq .nil (.seq (.one (.seq .nil (.draw (.pre [0, 1, 2, 3, 4, 5, 6, 7, 8, 9, 10, 11, 12, 13] .nil) [0, 0, 0, 4, 12, 28, 0, 0, 192, 448, 0, 2044, 4095, 8191]))) .nil)))))) (.seq .nil (.one (.loop [31] (.seq .nil (.seq .nil (.seq (.one (.seq .nil (.draw (.pre [0, 1, 2, 3, 4, 5, 6, 7, 8, 9, 10, 11, 12, 13] .nil) [0, 0, 0, 4, 12, 28, 0, 0, 192, 448, 0, 2044, 4095, 8191]))) .nil)))))))
def S_code_Code_scale (a0 : Value) (a1 : Value) (a2 : Value) (a3 : Value) (w : World) (R : Ending → World → Prop) : Prop :=
  xP Tryd.prog (sB .len #[32] #[a1]) fun v11_1 =>
  xLoop [(.int .i64 0)] w fun J2 vs3 _ w5 =>
    xP Tryd.prog (sBin .lss 3 (vs3.getD 0 undef) v11_1) fun v13_6 =>
    xIf v13_6 (
      xP Tryd.prog (sNil a0) fun v18_7 =>
    xP Tryd.prog (sFA 66 v18_7 1) fun v19_8 =>
    xR Tryd.prog (sLoad 63 v19_8) (w5.drew) fun v20_9 =>
    xP Tryd.prog (sIA 32 a1 (vs3.getD 0 undef)) fun v23_10 =>
    xR Tryd.prog (sLoad 5 v23_10) (w5.drew) fun v24_11 =>
    xE Tryd.prog (sCall 50 #[v20_9, v24_11, a3]) (w5.drew) fun v26_12 w13 =>
    xP Tryd.prog (sIA 32 a1 (vs3.getD 0 undef)) fun v27_14 =>
    xE Tryd.prog (sStore 5 v27_14 v26_12) w13 fun _ w15 =>
    xP Tryd.prog (sBin .add 3 (vs3.getD 0 undef) (.int .i64 1)) fun v28_16 =>
    J2 [v28_16] w15) (
      xP Tryd.prog (sB .len #[32] #[a2]) fun v30_17 =>
  xLoop [(.int .i64 0)] w5 fun J18 vs19 _ w21 =>
    xP Tryd.prog (sBin .lss 3 (vs19.getD 0 undef) v30_17) fun v32_22 =>
    xIf v32_22 (
      xP Tryd.prog (sNil a0) fun v37_23 =>
    xP Tryd.prog (sFA 66 v37_23 1) fun v38_24 =>
    xR Tryd.prog (sLoad 63 v38_24) (w21.drew) fun v39_25 =>
    xP Tryd.prog (sIA 32 a2 (vs19.getD 0 undef)) fun v42_26 =>
    xR Tryd.prog (sLoad 5 v42_26) (w21.drew) fun v43_27 =>
    xE Tryd.prog (sCall 50 #[v39_25, v43_27, a3]) (w21.drew) fun v45_28 w29 =>
    xP Tryd.prog (sIA 32 a2 (vs19.getD 0 undef)) fun v46_30 =>
    xE Tryd.prog (sStore 5 v46_30 v45_28) w29 fun _ w31 =>
    xP Tryd.prog (sBin .add 3 (vs19.getD 0 undef) (.int .i64 1)) fun v47_32 =>
    J18 [v47_32] w31) (
      R (.returned (.tuple #[])) w21))
theorem C_code_Code_scale {a0 : Value} {a1 : Value} {a2 : Value} {a3 : Value} {w : World} {R : Ending → World → Prop} (h : S_code_Code_scale a0 a1 a2 a3 w R) : Calls Tryd.prog 49 #[a0, a1, a2, a3] w R :=
  funcVC_sound (an := A_code_Code_scale) (args := [a0, a1, a2, a3]) (k := 4) Tryd.func49 (by kernel_rfl) rfl
    (Eq.mp (show S_code_Code_scale a0 a1 a2 a3 w R = funcVC Tryd.prog Tryd.f49 A_code_Code_scale [a0, a1, a2, a3] w R by kernel_rfl) h)

/-- (*stave/gf.Field).Mul -/
def A_gf_Field_Mul : Ann := (.seq .nil (.seq (.join [12] .nil .nil) (.seq (.draw (.pre [0, 1, 2, 3, 4, 5, 6, 7, 8, 9, 10, 11, 12, 13, 14, 15, 16, 17, 18] .nil) [0, 0, 0, 2, 10, 30, 62, 0, 0, 128, 640, 1920, 3968, 8190, 1, 16385, 65535, 131071, 262143]) .nil)))
def S_gf_Field_Mul (a0 : Value) (a1 : Value) (a2 : Value) (w : World) (R : Ending → World → Prop) : Prop :=
  xJoin (fun J1 =>
    xR Tryd.prog (sEq .eql 5 true a1 (.int .u8 0)) w fun v8_2 =>
    xIf v8_2 (
    J1 [(.bool true)] w) (
    xR Tryd.prog (sEq .eql 5 true a2 (.int .u8 0)) w fun v11_3 =>
    J1 [v11_3] w)) fun vs4 _ w6 =>
  xIf (vs4.getD 0 undef) (
    R (.returned (.int .u8 0)) w6) (
    xP Tryd.prog (sNil a0) fun v16_7 =>
  xP Tryd.prog (sFA 86 v16_7 1) fun v17_8 =>
  xP Tryd.prog (sIA 84 v17_8 a1) fun v18_9 =>
  xR Tryd.prog (sLoad 3 v18_9) (w6.drew) fun v19_10 =>
  xP Tryd.prog (sNil a0) fun v22_11 =>
  xP Tryd.prog (sFA 86 v22_11 1) fun v23_12 =>
  xP Tryd.prog (sIA 84 v23_12 a2) fun v24_13 =>
  xR Tryd.prog (sLoad 3 v24_13) (w6.drew) fun v25_14 =>
  xP Tryd.prog (sBin .add 3 v19_10 v25_14) fun v26_15 =>
  xP Tryd.prog (sNil a0) fun v27_16 =>
  xP Tryd.prog (sFA 86 v27_16 0) fun v28_17 =>
  xP Tryd.prog (sIA 83 v28_17 v26_15) fun v29_18 =>
  xR Tryd.prog (sLoad 5 v29_18) (w6.drew) fun v30_19 =>
  R (.returned v30_19) (w6.drew))
theorem C_gf_Field_Mul {a0 : Value} {a1 : Value} {a2 : Value} {w : World} {R : Ending → World → Prop} (h : S_gf_Field_Mul a0 a1 a2 w R) : Calls Tryd.prog 50 #[a0, a1, a2] w R :=
  funcVC_sound (an := A_gf_Field_Mul) (args := [a0, a1, a2]) (k := 3) Tryd.func50 (by kernel_rfl) rfl
    (Eq.mp (show S_gf_Field_Mul a0 a1 a2 w R = funcVC Tryd.prog Tryd.f50 A_gf_Field_Mul [a0, a1, a2] w R by kernel_rfl) h)

/-- (stave/api.Fault).Unwrap -/
def A_api_Fault_Unwrap : Ann := .nil
def S_api_Fault_Unwrap (a0 : Value) (w : World) (R : Ending → World → Prop) : Prop :=
  xE Tryd.prog (sBox 82 a0) w fun v1_1 w2 =>
  xP Tryd.prog (sFA 82 v1_1 2) fun v3_3 =>
  xR Tryd.prog (sLoad 24 v3_3) w2 fun v4_4 =>
  R (.returned v4_4) w2
theorem C_api_Fault_Unwrap {a0 : Value} {w : World} {R : Ending → World → Prop} (h : S_api_Fault_Unwrap a0 w R) : Calls Tryd.prog 73 #[a0] w R :=
  funcVC_sound (an := A_api_Fault_Unwrap) (args := [a0]) (k := 1) Tryd.func73 (by kernel_rfl) rfl
    (Eq.mp (show S_api_Fault_Unwrap a0 w R = funcVC Tryd.prog Tryd.f73 A_api_Fault_Unwrap [a0] w R by kernel_rfl) h)

/-- gosem.cut.vars -/
def A_gosem_cut_vars : Ann := .nil
def S_gosem_cut_vars (w : World) (R : Ending → World → Prop) : Prop :=
  xP Tryd.prog (sIface 151 (.pointer none)) fun v0_1 =>
  xE Tryd.prog (sCall 45 #[v0_1]) w fun v1_2 w3 =>
  xE Tryd.prog (sInvoke "Elem" #[v1_2]) w3 fun v2_4 w5 =>
  xE Tryd.prog (sStore 93 (.pointer (some ⟨0, 0, none⟩)) v2_4) w5 fun _ w6 =>
  R (.returned (.tuple #[])) w6
theorem C_gosem_cut_vars {w : World} {R : Ending → World → Prop} (h : S_gosem_cut_vars  w R) : Calls Tryd.prog 92 #[] w R :=
  funcVC_sound (an := A_gosem_cut_vars) (args := []) (k := 0) Tryd.func92 (by kernel_rfl) rfl
    (Eq.mp (show S_gosem_cut_vars  w R = funcVC Tryd.prog Tryd.f92 A_gosem_cut_vars [] w R by kernel_rfl) h)

end Go.Proofs.YtoanmeohlpdjfaaDoor
