import Derived.Test.YtbfaglbfpmnnmaaDoorXPan
import Derived.Test.YtbfaglbfpmnnmaaDoorRows
namespace Go.Proofs.YtbfaglbfpmnnmaaDoor
set_option linter.unusedSimpArgs false
set_option linter.unusedVariables false
open Go.X
set_option maxRecDepth 100000

/-- stave/reply.put -/
def A_reply_put : Ann := (.seq .nil (.seq .nil (.seq (.seq .nil (.one (.loop [4, 10] .nil))) (.seq (.draw (.pre [1, 2, 3, 4, 5, 6, 7, 8, 9, 10, 11, 12, 13, 14, 15, 16, 17] (.alt 0 (.pre [18, 19, 20, 21, 22, 23] .nil) (.op 18 (.pre [0, 19, 20, 21, 22, 23] .nil)))) [0, 0, 2, 6, 0, 16, 48, 0, 128, 384, 0, 1024, 3072, 0, 8192, 24576, 0, 65536, 262142, 524287, 1048575, 1048575, 4194303, 8388607]) .nil))))
def S_reply_put (a0 : Value) (w : World) (R : Ending → World → Prop) : Prop :=
  xE Tryd.prog (sBox 56 a0) w fun v1_1 w2 =>
  xP Tryd.prog (sFA 56 v1_1 5) fun v7_3 =>
  xR Tryd.prog (sLoad 54 v7_3) w2 fun v8_4 =>
  xP Tryd.prog (sB .len #[54] #[v8_4]) fun v9_5 =>
  xLoop [(.slice none 0 0), (.int .i64 0)] w2 fun J6 vs7 _ w9 =>
    xP Tryd.prog (sBin .lss 3 (vs7.getD 1 undef) v9_5) fun v11_10 =>
    xIf v11_10 (
      xP Tryd.prog (sIA 54 v8_4 (vs7.getD 1 undef)) fun v12_11 =>
    xR Tryd.prog (sLoad 79 v12_11) w9 fun v13_12 =>
    xE Tryd.prog (sAlloc 79) w9 fun v6_13 w14 =>
    xE Tryd.prog (sStore 79 v6_13 v13_12) w14 fun _ w15 =>
    xR Tryd.prog (sLoad 79 v6_13) w15 fun v15_16 =>
    xE Tryd.prog (sCall 56 #[v15_16]) w15 fun v16_17 w18 =>
    xE Tryd.prog (sBuildSlice 53 1 #[(0, v16_17)]) w18 fun v17_19 w20 =>
    xE Tryd.prog (sB .append #[53, 53] #[(vs7.getD 0 undef), v17_19]) w20 fun v18_21 w22 =>
    xP Tryd.prog (sBin .add 3 (vs7.getD 1 undef) (.int .i64 1)) fun v19_23 =>
    J6 [v18_21, v19_23] w22) (
      xP Tryd.prog (sFA 56 v1_1 0) fun v21_24 =>
  xR Tryd.prog (sLoad 3 v21_24) (w9.drew) fun v22_25 =>
  xP Tryd.prog (sBuild 93 #[(0, v22_25)]) fun v23_26 =>
  xP Tryd.prog (sFA 56 v1_1 1) fun v24_27 =>
  xR Tryd.prog (sLoad 31 v24_27) (w9.drew) fun v25_28 =>
  xP Tryd.prog (sBuild 93 #[(0, v25_28)]) fun v26_29 =>
  xP Tryd.prog (sFA 56 v1_1 2) fun v27_30 =>
  xR Tryd.prog (sLoad 3 v27_30) (w9.drew) fun v28_31 =>
  xP Tryd.prog (sBuild 93 #[(0, v28_31)]) fun v29_32 =>
  xP Tryd.prog (sFA 56 v1_1 3) fun v30_33 =>
  xR Tryd.prog (sLoad 3 v30_33) (w9.drew) fun v31_34 =>
  xP Tryd.prog (sBuild 93 #[(0, v31_34)]) fun v32_35 =>
  xP Tryd.prog (sFA 56 v1_1 4) fun v33_36 =>
  xR Tryd.prog (sLoad 53 v33_36) (w9.drew) fun v34_37 =>
  xP Tryd.prog (sBuild 93 #[(2, v34_37)]) fun v35_38 =>
  xP Tryd.prog (sBuild 93 #[(2, (vs7.getD 0 undef))]) fun v37_39 =>
  (xE Tryd.prog (sCall 43 #[]) (w9.drew) fun v20_40 w41 =>
  xStill Tryd.prog (sLoad 53 v33_36) v34_37 w41 <|
  xStill Tryd.prog (sLoad 3 v30_33) v31_34 w41 <|
  xStill Tryd.prog (sLoad 3 v27_30) v28_31 w41 <|
  xStill Tryd.prog (sLoad 31 v24_27) v25_28 w41 <|
  xStill Tryd.prog (sLoad 3 v21_24) v22_25 w41 <|
  xE Tryd.prog (sBuildSlice 88 6 #[(0, v23_26), (1, v26_29), (2, v29_32), (3, v32_35), (4, v35_38), (5, v37_39)]) w41 fun v38_42 w43 =>
  xE Tryd.prog (sCall 57 #[v20_40, v38_42]) w43 fun v39_44 w45 =>
  xP Tryd.prog (sExtract v39_44 0) fun v40_46 =>
  xP Tryd.prog (sExtract v39_44 1) fun v41_47 =>
  R (.returned (.tuple #[v40_46, v41_47])) w45) ∧
  (xE Tryd.prog (sBuildSlice 88 6 #[(0, v23_26), (1, v26_29), (2, v29_32), (3, v32_35), (4, v35_38), (5, v37_39)]) (w9.drew) fun v38_48 w49 =>
  xE Tryd.prog (sCall 43 #[]) w49 fun v20_50 w51 =>
  xE Tryd.prog (sCall 57 #[v20_50, v38_48]) w51 fun v39_52 w53 =>
  xP Tryd.prog (sExtract v39_52 0) fun v40_54 =>
  xP Tryd.prog (sExtract v39_52 1) fun v41_55 =>
  R (.returned (.tuple #[v40_54, v41_55])) w53))
theorem C_reply_put {a0 : Value} {w : World} {R : Ending → World → Prop} (h : S_reply_put a0 w R) : Calls Tryd.prog 36 #[a0] w R :=
  funcVC_sound (an := A_reply_put) (args := [a0]) (k := 1) Tryd.func36 (by kernel_rfl) rfl
    (Eq.mp (show S_reply_put a0 w R = funcVC Tryd.prog Tryd.f36 A_reply_put [a0] w R by kernel_rfl) h)

/-- slices.ContainsFunc[[]stave/api.Fetched,stave/api.Fetched] -/
def A_slices_ContainsFunc_api_Fetched : Ann := .nil
def S_slices_ContainsFunc_api_Fetched (a0 : Value) (a1 : Value) (w : World) (R : Ending → World → Prop) : Prop :=
  xE Tryd.prog (sCall 58 #[a0, a1]) w fun v7_1 w2 =>
  xP Tryd.prog (sBin .geq 3 v7_1 (.int .i64 0)) fun v8_3 =>
  R (.returned v8_3) w2
theorem C_slices_ContainsFunc_api_Fetched {a0 : Value} {a1 : Value} {w : World} {R : Ending → World → Prop} (h : S_slices_ContainsFunc_api_Fetched a0 a1 w R) : Calls Tryd.prog 37 #[a0, a1] w R :=
  funcVC_sound (an := A_slices_ContainsFunc_api_Fetched) (args := [a0, a1]) (k := 2) Tryd.func37 (by kernel_rfl) rfl
    (Eq.mp (show S_slices_ContainsFunc_api_Fetched a0 a1 w R = funcVC Tryd.prog Tryd.f37 A_slices_ContainsFunc_api_Fetched [a0, a1] w R by kernel_rfl) h)

/-- stave/reply.Right$1 -/
def A_reply_Rightx1 : Ann := .nil
def S_reply_Rightx1 (a0 : Value) (w : World) (R : Ending → World → Prop) : Prop :=
  xE Tryd.prog (sBox 79 a0) w fun v1_1 w2 =>
  xP Tryd.prog (sFA 79 v1_1 0) fun v3_3 =>
  xR Tryd.prog (sLoad 3 v3_3) w2 fun v4_4 =>
  xP Tryd.prog (sBin .lss 3 v4_4 (.int .i64 0)) fun v5_5 =>
  R (.returned v5_5) w2
theorem C_reply_Rightx1 {a0 : Value} {w : World} {R : Ending → World → Prop} (h : S_reply_Rightx1 a0 w R) : Calls Tryd.prog 38 #[a0] w R :=
  funcVC_sound (an := A_reply_Rightx1) (args := [a0]) (k := 1) Tryd.func38 (by kernel_rfl) rfl
    (Eq.mp (show S_reply_Rightx1 a0 w R = funcVC Tryd.prog Tryd.f38 A_reply_Rightx1 [a0] w R by kernel_rfl) h)

/-- stave/staveref1.PutFields -/
def A_staveref1_PutFields : Ann := (.seq .nil (.seq .nil (.seq .nil (.seq .nil (.seq (.seq .nil (.one (.loop [8, 27] (.seq .nil (.seq .nil (.join [8] (.one (.seq .nil (.seq (.seq (.draw (.pre [0, 1, 2, 3, 4, 5, 6] .nil) [0, 0, 0, 6, 14, 31, 63]) .nil) (.seq .nil (.one (.seq .nil (.seq (.draw (.pre [0, 1, 2, 3, 4, 5, 6, 7, 8, 9, 10] .nil) [0, 0, 0, 6, 14, 30, 62, 0, 128, 511, 1023]) (.seq .nil (.seq .nil (.seq .nil (.seq (.seq .nil (.seq .nil (.one (.loop [8, 80] .nil)))) .nil))))))))))) .nil)))))) .nil)))))
def S_staveref1_PutFields (a0 : Value) (a1 : Value) (w : World) (R : Ending → World → Prop) : Prop :=
  xE Tryd.prog (sCall 59 #[a0]) w fun v14_1 w2 =>
  xP Tryd.prog (sBin .geq 3 v14_1 (.int .i64 0)) fun v16_3 =>
  xIf v16_3 (
    R (.returned (.tuple #[(.slice none 0 0), (.int .i64 1), v14_1])) w2) (
    xP Tryd.prog (sB .len #[88] #[a1]) fun v19_4 =>
  xP Tryd.prog (sB .len #[86] #[a0]) fun v21_5 =>
  xR Tryd.prog (sEq .neq 3 false v19_4 v21_5) w2 fun v22_6 =>
  xIf v22_6 (
    xP Tryd.prog (sB .len #[88] #[a1]) fun v24_7 =>
    R (.returned (.tuple #[(.slice none 0 0), (.int .i64 1), v24_7])) w2) (
    xP Tryd.prog (sB .len #[86] #[a0]) fun v26_8 =>
  xLoop [(.slice none 0 0), (.int .i64 0)] w2 fun J9 vs10 _ w12 =>
    xP Tryd.prog (sBin .lss 3 (vs10.getD 1 undef) v26_8) fun v28_13 =>
    xIf v28_13 (
      xJoin (fun J14 =>
      xP Tryd.prog (sIA 86 a0 (vs10.getD 1 undef)) fun v30_15 =>
      xR Tryd.prog (sLoad 123 v30_15) w12 fun v31_16 =>
      xE Tryd.prog (sAlloc 123) w12 fun v10_17 w18 =>
      xE Tryd.prog (sStore 123 v10_17 v31_16) w18 fun _ w19 =>
      xR Tryd.prog (sLoad 123 v10_17) (w19.drew) fun v32_20 =>
      xP Tryd.prog (sIA 88 a1 (vs10.getD 1 undef)) fun v35_21 =>
      xR Tryd.prog (sLoad 93 v35_21) (w19.drew) fun v36_22 =>
      xE Tryd.prog (sCall 60 #[v32_20, v36_22]) (w19.drew) fun v37_23 w24 =>
      xP Tryd.prog (sUn .not v37_23) fun v38_25 =>
      xIf v38_25 (
        R (.returned (.tuple #[(.slice none 0 0), (.int .i64 2), (vs10.getD 1 undef)])) w24) (
        xP Tryd.prog (sFA 123 v10_17 0) fun v40_26 =>
      xR Tryd.prog (sLoad 3 v40_26) w24 fun v41_27 =>
      xR Tryd.prog (sEq .eql 3 true v41_27 (.int .i64 1)) w24 fun v43_28 =>
      xIf v43_28 (
        xP Tryd.prog (sIA 88 a1 (vs10.getD 1 undef)) fun v47_29 =>
        xP Tryd.prog (sFA 93 v47_29 0) fun v48_30 =>
        xR Tryd.prog (sLoad 3 v48_30) (w24.drew) fun v49_31 =>
        xP Tryd.prog (sConv 3 97 v49_31) fun v50_32 =>
        xP Tryd.prog (sFA 123 v10_17 1) fun v51_33 =>
        xR Tryd.prog (sLoad 3 v51_33) (w24.drew) fun v52_34 =>
        xE Tryd.prog (sCall 61 #[(vs10.getD 0 undef), v50_32, v52_34]) (w24.drew) fun v53_35 w36 =>
        J14 [v53_35] w36) (
        xR Tryd.prog (sEq .eql 3 true v41_27 (.int .i64 2)) w24 fun v55_37 =>
        xIf v55_37 (
          xP Tryd.prog (sIA 88 a1 (vs10.getD 1 undef)) fun v59_38 =>
          xP Tryd.prog (sFA 93 v59_38 1) fun v60_39 =>
          xR Tryd.prog (sLoad 9 v60_39) w24 fun v61_40 =>
          xE Tryd.prog (sCall 62 #[(vs10.getD 0 undef), v61_40]) w24 fun v62_41 w42 =>
          J14 [v62_41] w42) (
          xR Tryd.prog (sEq .eql 3 true v41_27 (.int .i64 3)) w24 fun v64_43 =>
          xIf v64_43 (
            xP Tryd.prog (sIA 88 a1 (vs10.getD 1 undef)) fun v68_44 =>
            xP Tryd.prog (sFA 93 v68_44 2) fun v69_45 =>
            xR Tryd.prog (sLoad 53 v69_45) w24 fun v70_46 =>
            xP Tryd.prog (sB .len #[53] #[v70_46]) fun v71_47 =>
            xP Tryd.prog (sConv 3 97 v71_47) fun v72_48 =>
            xE Tryd.prog (sCall 61 #[(vs10.getD 0 undef), v72_48, (.int .i64 1)]) w24 fun v73_49 w50 =>
            xP Tryd.prog (sIA 88 a1 (vs10.getD 1 undef)) fun v76_51 =>
            xP Tryd.prog (sFA 93 v76_51 2) fun v77_52 =>
            xR Tryd.prog (sLoad 53 v77_52) w50 fun v78_53 =>
            xP Tryd.prog (sB .len #[53] #[v78_53]) fun v79_54 =>
            xLoop [v73_49, (.int .i64 0)] w50 fun J55 vs56 _ w58 =>
              xP Tryd.prog (sBin .lss 3 (vs56.getD 1 undef) v79_54) fun v81_59 =>
              xIf v81_59 (
                xP Tryd.prog (sIA 53 v78_53 (vs56.getD 1 undef)) fun v82_60 =>
              xR Tryd.prog (sLoad 9 v82_60) w58 fun v83_61 =>
              xE Tryd.prog (sCall 62 #[(vs56.getD 0 undef), v83_61]) w58 fun v86_62 w63 =>
              xP Tryd.prog (sBin .add 3 (vs56.getD 1 undef) (.int .i64 1)) fun v87_64 =>
              J55 [v86_62, v87_64] w63) (
                J14 [(vs56.getD 0 undef)] w58)) (
            J14 [(vs10.getD 0 undef)] w24))))) fun vs65 _ w67 =>
    xP Tryd.prog (sBin .add 3 (vs10.getD 1 undef) (.int .i64 1)) fun v88_68 =>
    J9 [(vs65.getD 0 undef), v88_68] w67) (
      R (.returned (.tuple #[(vs10.getD 0 undef), (.int .i64 0), (.int .i64 0)])) w12)))
theorem C_staveref1_PutFields {a0 : Value} {a1 : Value} {w : World} {R : Ending → World → Prop} (h : S_staveref1_PutFields a0 a1 w R) : Calls Tryd.prog 39 #[a0, a1] w R :=
  funcVC_sound (an := A_staveref1_PutFields) (args := [a0, a1]) (k := 2) Tryd.func39 (by kernel_rfl) rfl
    (Eq.mp (show S_staveref1_PutFields a0 a1 w R = funcVC Tryd.prog Tryd.f39 A_staveref1_PutFields [a0, a1] w R by kernel_rfl) h)

/-- stave/staveref19.replyFields -/
def A_staveref19_replyFields : Ann := .nil
def S_staveref19_replyFields (w : World) (R : Ending → World → Prop) : Prop :=
  xE Tryd.prog (sCall 63 #[(.int .i64 4), (.int .i64 4294967295)]) w fun v1_1 w2 =>
  xE Tryd.prog (sCall 63 #[(.int .i64 1), (.int .i64 255)]) w2 fun v2_3 w4 =>
  xE Tryd.prog (sCall 64 #[]) w4 fun v3_5 w6 =>
  xE Tryd.prog (sCall 64 #[]) w6 fun v4_7 w8 =>
  xP Tryd.prog (sBuild 123 #[(0, (.int .i64 3)), (3, (.int .i64 8)), (4, (.int .i64 24))]) fun v5_9 =>
  xP Tryd.prog (sBuild 123 #[(0, (.int .i64 3)), (3, (.int .i64 4)), (4, (.int .i64 608))]) fun v6_10 =>
  xE Tryd.prog (sBuildSlice 86 6 #[(0, v1_1), (1, v2_3), (2, v3_5), (3, v4_7), (4, v5_9), (5, v6_10)]) w8 fun v7_11 w12 =>
  R (.returned v7_11) w12
theorem C_staveref19_replyFields {w : World} {R : Ending → World → Prop} (h : S_staveref19_replyFields  w R) : Calls Tryd.prog 40 #[] w R :=
  funcVC_sound (an := A_staveref19_replyFields) (args := []) (k := 0) Tryd.func40 (by kernel_rfl) rfl
    (Eq.mp (show S_staveref19_replyFields  w R = funcVC Tryd.prog Tryd.f40 A_staveref19_replyFields [] w R by kernel_rfl) h)

/-- stave/staveref19.replyValues -/
def A_staveref19_replyValues : Ann := (.seq .nil (.seq .nil (.seq (.seq .nil (.one (.loop [3, 9] (.seq .nil (.seq .nil (.seq (.one (.seq .nil (.draw (.pre [0, 1, 2, 3, 6, 7, 4, 5, 8, 9, 10, 11] .nil) [0, 0, 2, 6, 14, 30, 0, 64, 254, 510, 1023, 2047]))) .nil)))))) .nil)))
def S_staveref19_replyValues (a0 : Value) (w : World) (R : Ending → World → Prop) : Prop :=
  xE Tryd.prog (sBox 56 a0) w fun v1_1 w2 =>
  xP Tryd.prog (sFA 56 v1_1 5) fun v6_3 =>
  xR Tryd.prog (sLoad 54 v6_3) w2 fun v7_4 =>
  xP Tryd.prog (sB .len #[54] #[v7_4]) fun v8_5 =>
  xLoop [(.slice none 0 0), (.int .i64 0)] w2 fun J6 vs7 _ w9 =>
    xP Tryd.prog (sBin .lss 3 (vs7.getD 1 undef) v8_5) fun v10_10 =>
    xIf v10_10 (
      xP Tryd.prog (sIA 54 v7_4 (vs7.getD 1 undef)) fun v11_11 =>
    xR Tryd.prog (sLoad 79 v11_11) w9 fun v12_12 =>
    xE Tryd.prog (sAlloc 79) w9 fun v5_13 w14 =>
    xE Tryd.prog (sStore 79 v5_13 v12_12) w14 fun _ w15 =>
    xP Tryd.prog (sFA 79 v5_13 0) fun v14_16 =>
    xR Tryd.prog (sLoad 3 v14_16) (w15.drew) fun v15_17 =>
    xP Tryd.prog (sConv 3 97 v15_17) fun v16_18 =>
    xP Tryd.prog (sFA 79 v5_13 1) fun v19_19 =>
    xR Tryd.prog (sLoad 9 v19_19) (w15.drew) fun v20_20 =>
    xE Tryd.prog (sCall 61 #[(.slice none 0 0), v16_18, (.int .i64 8)]) (w15.drew) fun v17_21 w22 =>
    xStill Tryd.prog (sLoad 9 v19_19) v20_20 w22 <|
    xE Tryd.prog (sConv 57 9 v17_21) w22 fun v18_23 w24 =>
    xStill Tryd.prog (sLoad 9 v19_19) v20_20 w24 <|
    xP Tryd.prog (sBin .add 9 v18_23 v20_20) fun v21_25 =>
    xE Tryd.prog (sBuildSlice 53 1 #[(0, v21_25)]) w24 fun v22_26 w27 =>
    xE Tryd.prog (sB .append #[53, 53] #[(vs7.getD 0 undef), v22_26]) w27 fun v23_28 w29 =>
    xP Tryd.prog (sBin .add 3 (vs7.getD 1 undef) (.int .i64 1)) fun v24_30 =>
    J6 [v23_28, v24_30] w29) (
      xP Tryd.prog (sFA 56 v1_1 0) fun v25_31 =>
  xR Tryd.prog (sLoad 3 v25_31) w9 fun v26_32 =>
  xP Tryd.prog (sBuild 93 #[(0, v26_32)]) fun v27_33 =>
  xP Tryd.prog (sFA 56 v1_1 1) fun v28_34 =>
  xR Tryd.prog (sLoad 31 v28_34) w9 fun v29_35 =>
  xP Tryd.prog (sBuild 93 #[(0, v29_35)]) fun v30_36 =>
  xP Tryd.prog (sFA 56 v1_1 2) fun v31_37 =>
  xR Tryd.prog (sLoad 3 v31_37) w9 fun v32_38 =>
  xP Tryd.prog (sBuild 93 #[(0, v32_38)]) fun v33_39 =>
  xP Tryd.prog (sFA 56 v1_1 3) fun v34_40 =>
  xR Tryd.prog (sLoad 3 v34_40) w9 fun v35_41 =>
  xP Tryd.prog (sBuild 93 #[(0, v35_41)]) fun v36_42 =>
  xP Tryd.prog (sFA 56 v1_1 4) fun v37_43 =>
  xR Tryd.prog (sLoad 53 v37_43) w9 fun v38_44 =>
  xP Tryd.prog (sBuild 93 #[(2, v38_44)]) fun v39_45 =>
  xP Tryd.prog (sBuild 93 #[(2, (vs7.getD 0 undef))]) fun v41_46 =>
  xE Tryd.prog (sBuildSlice 88 6 #[(0, v27_33), (1, v30_36), (2, v33_39), (3, v36_42), (4, v39_45), (5, v41_46)]) w9 fun v42_47 w48 =>
  R (.returned v42_47) w48)
theorem C_staveref19_replyValues {a0 : Value} {w : World} {R : Ending → World → Prop} (h : S_staveref19_replyValues a0 w R) : Calls Tryd.prog 41 #[a0] w R :=
  funcVC_sound (an := A_staveref19_replyValues) (args := [a0]) (k := 1) Tryd.func41 (by kernel_rfl) rfl
    (Eq.mp (show S_staveref19_replyValues a0 w R = funcVC Tryd.prog Tryd.f41 A_staveref19_replyValues [a0] w R by kernel_rfl) h)

/-- stave/gram.Get -/
def A_gram_Get : Ann := (.seq .nil (.seq .nil (.seq .nil (.seq .nil (.seq (.seq .nil (.one (.loop [8, 25] .nil))) .nil)))))
def S_gram_Get (a0 : Value) (a1 : Value) (w : World) (R : Ending → World → Prop) : Prop :=
  xE Tryd.prog (sCall 65 #[a0]) w fun v14_1 w2 =>
  xP Tryd.prog (sBin .geq 3 v14_1 (.int .i64 0)) fun v16_3 =>
  xIf v16_3 (
    xP Tryd.prog (sIface 31 (.int .i64 1)) fun v18_4 =>
    xE Tryd.prog (sCall 32 #[(.string (ByteArray.mk #[103, 114, 97, 109, 46, 71, 101, 116])), v14_1, v18_4]) w2 fun v19_5 w6 =>
    R (.returned (.tuple #[(.slice none 0 0), v19_5])) w6) (
    xP Tryd.prog (sBuild 131 #[(0, a1)]) fun v21_7 =>
  xE Tryd.prog (sBox 131 v21_7) w2 fun v22_8 w9 =>
  xP Tryd.prog (sB .len #[86] #[a0]) fun v24_10 =>
  xLoop [(.slice none 0 0), (.int .i64 0)] w9 fun J11 vs12 _ w14 =>
    xP Tryd.prog (sBin .lss 3 (vs12.getD 1 undef) v24_10) fun v26_15 =>
    xIf v26_15 (
      xP Tryd.prog (sIA 86 a0 (vs12.getD 1 undef)) fun v27_16 =>
    xR Tryd.prog (sLoad 123 v27_16) w14 fun v28_17 =>
    xE Tryd.prog (sAlloc 123) w14 fun v10_18 w19 =>
    xE Tryd.prog (sStore 123 v10_18 v28_17) w19 fun _ w20 =>
    xP Tryd.prog (sNil v22_8) fun v30_21 =>
    xP Tryd.prog (sFA 131 v30_21 1) fun v31_22 =>
    xR Tryd.prog (sLoad 3 v31_22) w20 fun v32_23 =>
    xR Tryd.prog (sLoad 123 v10_18) w20 fun v34_24 =>
    xE Tryd.prog (sCall 66 #[v22_8, v34_24]) w20 fun v35_25 w26 =>
    xE Tryd.prog (sAlloc 93) w26 fun v12_27 w28 =>
    xE Tryd.prog (sStore 93 v12_27 v35_25) w28 fun _ w29 =>
    xP Tryd.prog (sNil v22_8) fun v37_30 =>
    xP Tryd.prog (sFA 131 v37_30 2) fun v38_31 =>
    xR Tryd.prog (sLoad 31 v38_31) w29 fun v39_32 =>
    xR Tryd.prog (sEq .neq 31 true v39_32 (.int .i64 0)) w29 fun v40_33 =>
    xIf v40_33 (
      xP Tryd.prog (sNil v22_8) fun v43_34 =>
      xP Tryd.prog (sFA 131 v43_34 2) fun v44_35 =>
      xR Tryd.prog (sLoad 31 v44_35) w29 fun v45_36 =>
      xP Tryd.prog (sIface 31 v45_36) fun v46_37 =>
      xE Tryd.prog (sCall 32 #[(.string (ByteArray.mk #[103, 114, 97, 109, 46, 71, 101, 116])), v32_23, v46_37]) w29 fun v47_38 w39 =>
      R (.returned (.tuple #[(.slice none 0 0), v47_38])) w39) (
      xR Tryd.prog (sLoad 93 v12_27) w29 fun v49_40 =>
    xE Tryd.prog (sBuildSlice 88 1 #[(0, v49_40)]) w29 fun v50_41 w42 =>
    xE Tryd.prog (sB .append #[88, 88] #[(vs12.getD 0 undef), v50_41]) w42 fun v51_43 w44 =>
    xP Tryd.prog (sBin .add 3 (vs12.getD 1 undef) (.int .i64 1)) fun v52_45 =>
    J11 [v51_43, v52_45] w44)) (
      xP Tryd.prog (sNil v22_8) fun v54_46 =>
  xP Tryd.prog (sFA 131 v54_46 1) fun v55_47 =>
  xR Tryd.prog (sLoad 3 v55_47) w14 fun v56_48 =>
  xP Tryd.prog (sB .len #[57] #[a1]) fun v58_49 =>
  xP Tryd.prog (sBin .lss 3 v56_48 v58_49) fun v59_50 =>
  xIf v59_50 (
    xP Tryd.prog (sNil v22_8) fun v61_51 =>
    xP Tryd.prog (sFA 131 v61_51 1) fun v62_52 =>
    xR Tryd.prog (sLoad 3 v62_52) w14 fun v63_53 =>
    xP Tryd.prog (sIface 31 (.int .i64 4)) fun v64_54 =>
    xE Tryd.prog (sCall 32 #[(.string (ByteArray.mk #[103, 114, 97, 109, 46, 71, 101, 116])), v63_53, v64_54]) w14 fun v65_55 w56 =>
    R (.returned (.tuple #[(.slice none 0 0), v65_55])) w56) (
    R (.returned (.tuple #[(vs12.getD 0 undef), (.nilIface)])) w14)))
theorem C_gram_Get {a0 : Value} {a1 : Value} {w : World} {R : Ending → World → Prop} (h : S_gram_Get a0 a1 w R) : Calls Tryd.prog 42 #[a0, a1] w R :=
  funcVC_sound (an := A_gram_Get) (args := [a0, a1]) (k := 2) Tryd.func42 (by kernel_rfl) rfl
    (Eq.mp (show S_gram_Get a0 a1 w R = funcVC Tryd.prog Tryd.f42 A_gram_Get [a0, a1] w R by kernel_rfl) h)

/-- stave/reply.fields -/
def A_reply_fields : Ann := .nil
def S_reply_fields (w : World) (R : Ending → World → Prop) : Prop :=
  xP Tryd.prog (sBuild 123 #[(0, (.int .i64 1)), (1, (.int .i64 4)), (3, (.int .i64 4294967295))]) fun v1_1 =>
  xP Tryd.prog (sBuild 123 #[(0, (.int .i64 1)), (1, (.int .i64 1)), (3, (.int .i64 255))]) fun v2_2 =>
  xP Tryd.prog (sBuild 123 #[(0, (.int .i64 1)), (1, (.int .i64 8)), (3, (.int .i64 9223372036854775807))]) fun v3_3 =>
  xP Tryd.prog (sBuild 123 #[(0, (.int .i64 1)), (1, (.int .i64 8)), (3, (.int .i64 9223372036854775807))]) fun v4_4 =>
  xP Tryd.prog (sBuild 123 #[(0, (.int .i64 3)), (3, (.int .i64 8)), (4, (.int .i64 24))]) fun v5_5 =>
  xP Tryd.prog (sBuild 123 #[(0, (.int .i64 3)), (3, (.int .i64 4)), (4, (.int .i64 608))]) fun v6_6 =>
  xE Tryd.prog (sBuildSlice 86 6 #[(0, v1_1), (1, v2_2), (2, v3_3), (3, v4_4), (4, v5_5), (5, v6_6)]) w fun v7_7 w8 =>
  R (.returned v7_7) w8
theorem C_reply_fields {w : World} {R : Ending → World → Prop} (h : S_reply_fields  w R) : Calls Tryd.prog 43 #[] w R :=
  funcVC_sound (an := A_reply_fields) (args := []) (k := 0) Tryd.func43 (by kernel_rfl) rfl
    (Eq.mp (show S_reply_fields  w R = funcVC Tryd.prog Tryd.f43 A_reply_fields [] w R by kernel_rfl) h)

/-- stave/reply.batch -/
def A_reply_batch : Ann := (.seq .nil (.seq .nil (.seq (.seq .nil (.one (.loop [8] (.seq .nil (.seq .nil (.seq (.one (.seq .nil (.draw (.pre [0, 1, 2, 3, 4, 5, 6, 7, 8, 9, 10, 11, 12] .nil) [0, 1, 0, 0, 12, 28, 0, 64, 192, 508, 1023, 2047, 4095]))) .nil)))))) .nil)))
def S_reply_batch (a0 : Value) (w : World) (R : Ending → World → Prop) : Prop :=
  xE Tryd.prog (sAlloc 79) w fun v2_1 w2 =>
  xP Tryd.prog (sSlice 9 a0 (some (.int .i64 8)) none none) fun v6_3 =>
  xP Tryd.prog (sBuild 79 #[(1, v6_3)]) fun v7_4 =>
  xE Tryd.prog (sAlloc 79) w2 fun v3_5 w6 =>
  xE Tryd.prog (sStore 79 v3_5 v7_4) w6 fun _ w7 =>
  xLoop [(.int .i64 0)] w7 fun J8 vs9 _ w11 =>
    xP Tryd.prog (sBin .lss 3 (vs9.getD 0 undef) (.int .i64 8)) fun v9_12 =>
    xIf v9_12 (
      xP Tryd.prog (sFA 79 v3_5 0) fun v11_13 =>
    xR Tryd.prog (sLoad 3 v11_13) (w11.drew) fun v12_14 =>
    xP Tryd.prog (sIndex 9 a0 (vs9.getD 0 undef)) fun v15_15 =>
    xP Tryd.prog (sConv 5 3 v15_15) fun v16_16 =>
    xP Tryd.prog (sBin .mul 3 (.int .i64 8) (vs9.getD 0 undef)) fun v18_17 =>
    xP Tryd.prog (sConv 3 133 v18_17) fun v19_18 =>
    xP Tryd.prog (sBin .shl 3 v16_16 v19_18) fun v20_19 =>
    xP Tryd.prog (sBin .or 3 v12_14 v20_19) fun v21_20 =>
    xP Tryd.prog (sFA 79 v3_5 0) fun v22_21 =>
    xE Tryd.prog (sStore 3 v22_21 v21_20) (w11.drew) fun _ w22 =>
    xP Tryd.prog (sBin .add 3 (vs9.getD 0 undef) (.int .i64 1)) fun v23_23 =>
    J8 [v23_23] w22) (
      xR Tryd.prog (sLoad 79 v3_5) w11 fun v24_24 =>
  xE Tryd.prog (sStore 79 v2_1 v24_24) w11 fun _ w25 =>
  xR Tryd.prog (sLoad 79 v2_1) w25 fun r26 => R (.returned r26) w25)
theorem C_reply_batch {a0 : Value} {w : World} {R : Ending → World → Prop} (h : S_reply_batch a0 w R) : Calls Tryd.prog 44 #[a0] w R :=
  funcVC_sound (an := A_reply_batch) (args := [a0]) (k := 1) Tryd.func44 (by kernel_rfl) rfl
    (Eq.mp (show S_reply_batch a0 w R = funcVC Tryd.prog Tryd.f44 A_reply_batch [a0] w R by kernel_rfl) h)

/-- stave/staveref1.GetFields -/
def A_staveref1_GetFields : Ann := (.seq .nil (.seq .nil (.seq .nil (.seq .nil (.seq (.seq .nil (.one (.loop [8, 9, 26] (.seq .nil (.seq .nil (.seq (.one (.seq .nil (.seq .nil (.seq .nil (.join [13, 14] (.seq .nil (.one (.seq .nil (.seq (.seq .nil (.seq .nil (.seq (.join [62] .nil .nil) (.draw (.pre [0, 1, 2, 3, 4, 5, 6, 7, 8] .nil) [0, 1, 0, 0, 8, 28, 3, 67, 255])))) (.seq .nil (.seq .nil (.seq .nil (.seq (.seq .nil (.seq .nil (.seq (.join [107] .nil .nil) (.seq .nil (.seq .nil (.one (.loop [13, 14, 17] (.seq (.join [117] .nil .nil) .nil)))))))) .nil)))))))) .nil))))) .nil)))))) .nil)))))
def S_staveref1_GetFields (a0 : Value) (a1 : Value) (w : World) (R : Ending → World → Prop) : Prop :=
  xE Tryd.prog (sCall 59 #[a0]) w fun v20_1 w2 =>
  xP Tryd.prog (sBin .geq 3 v20_1 (.int .i64 0)) fun v22_3 =>
  xIf v22_3 (
    R (.returned (.tuple #[(.slice none 0 0), (.int .i64 1), v20_1])) w2) (
    xP Tryd.prog (sB .len #[86] #[a0]) fun v25_4 =>
  xLoop [(.slice none 0 0), (.int .i64 0), (.int .i64 0)] w2 fun J5 vs6 _ w8 =>
    xP Tryd.prog (sBin .lss 3 (vs6.getD 2 undef) v25_4) fun v27_9 =>
    xIf v27_9 (
      xP Tryd.prog (sIA 86 a0 (vs6.getD 2 undef)) fun v28_10 =>
    xR Tryd.prog (sLoad 123 v28_10) w8 fun v29_11 =>
    xE Tryd.prog (sAlloc 123) w8 fun v11_12 w13 =>
    xE Tryd.prog (sStore 123 v11_12 v29_11) w13 fun _ w14 =>
    xE Tryd.prog (sAlloc 93) w14 fun v12_15 w16 =>
    xJoin (fun J17 =>
      xP Tryd.prog (sFA 123 v11_12 0) fun v31_18 =>
      xR Tryd.prog (sLoad 3 v31_18) w16 fun v32_19 =>
      xR Tryd.prog (sEq .eql 3 true v32_19 (.int .i64 1)) w16 fun v34_20 =>
      xIf v34_20 (
        xP Tryd.prog (sB .len #[57] #[a1]) fun v36_21 =>
        xP Tryd.prog (sBin .sub 3 v36_21 (vs6.getD 1 undef)) fun v38_22 =>
        xP Tryd.prog (sFA 123 v11_12 1) fun v39_23 =>
        xR Tryd.prog (sLoad 3 v39_23) w16 fun v40_24 =>
        xP Tryd.prog (sBin .lss 3 v38_22 v40_24) fun v41_25 =>
        xIf v41_25 (
          R (.returned (.tuple #[(.slice none 0 0), (.int .i64 3), (vs6.getD 1 undef)])) w16) (
          xP Tryd.prog (sFA 123 v11_12 1) fun v46_26 =>
        xR Tryd.prog (sLoad 3 v46_26) w16 fun v47_27 =>
        xP Tryd.prog (sBin .add 3 (vs6.getD 1 undef) v47_27) fun v48_28 =>
        xP Tryd.prog (sSlice 57 a1 (some (vs6.getD 1 undef)) (some v48_28) none) fun v49_29 =>
        xE Tryd.prog (sCall 46 #[v49_29]) w16 fun v50_30 w31 =>
        xJoin (fun J32 =>
          xP Tryd.prog (sFA 123 v11_12 2) fun v52_33 =>
          xR Tryd.prog (sLoad 3 v52_33) w31 fun v53_34 =>
          xP Tryd.prog (sConv 3 97 v53_34) fun v54_35 =>
          xP Tryd.prog (sBin .lss 97 v50_30 v54_35) fun v55_36 =>
          xIf v55_36 (
          J32 [(.bool true)] w31) (
          xP Tryd.prog (sFA 123 v11_12 3) fun v58_37 =>
          xR Tryd.prog (sLoad 3 v58_37) w31 fun v59_38 =>
          xP Tryd.prog (sConv 3 97 v59_38) fun v60_39 =>
          xP Tryd.prog (sBin .gtr 97 v50_30 v60_39) fun v61_40 =>
          J32 [v61_40] w31)) fun vs41 _ w43 =>
        xIf (vs41.getD 0 undef) (
          R (.returned (.tuple #[(.slice none 0 0), (.int .i64 2), (vs6.getD 1 undef)])) w43) (
          xP Tryd.prog (sConv 97 3 v50_30) fun v65_44 =>
        xP Tryd.prog (sFA 123 v11_12 1) fun v67_45 =>
        xR Tryd.prog (sLoad 3 v67_45) (w43.drew) fun v68_46 =>
        xP Tryd.prog (sBin .add 3 (vs6.getD 1 undef) v68_46) fun v69_47 =>
        xP Tryd.prog (sFA 93 v12_15 0) fun v70_48 =>
        xE Tryd.prog (sStore 3 v70_48 v65_44) (w43.drew) fun _ w49 =>
        xStill Tryd.prog (sLoad 3 v67_45) v68_46 w49 <|
        J17 [v69_47, (.int .i64 0)] w49))) (
        xR Tryd.prog (sEq .eql 3 true v32_19 (.int .i64 2)) w16 fun v72_50 =>
        xIf v72_50 (
          xP Tryd.prog (sFA 123 v11_12 2) fun v76_51 =>
          xR Tryd.prog (sLoad 3 v76_51) w16 fun v77_52 =>
          xP Tryd.prog (sFA 123 v11_12 3) fun v78_53 =>
          xR Tryd.prog (sLoad 3 v78_53) w16 fun v79_54 =>
          xE Tryd.prog (sCall 67 #[a1, (vs6.getD 1 undef), v77_52, v79_54]) w16 fun v80_55 w56 =>
          xP Tryd.prog (sExtract v80_55 0) fun v81_57 =>
          xP Tryd.prog (sExtract v80_55 1) fun v82_58 =>
          xP Tryd.prog (sExtract v80_55 2) fun v83_59 =>
          xP Tryd.prog (sFA 93 v12_15 1) fun v84_60 =>
          xE Tryd.prog (sStore 9 v84_60 v81_57) w56 fun _ w61 =>
          J17 [v82_58, v83_59] w61) (
          xR Tryd.prog (sEq .eql 3 true v32_19 (.int .i64 3)) w16 fun v86_62 =>
          xIf v86_62 (
            xP Tryd.prog (sB .len #[57] #[a1]) fun v88_63 =>
            xP Tryd.prog (sBin .sub 3 v88_63 (vs6.getD 1 undef)) fun v90_64 =>
            xP Tryd.prog (sBin .lss 3 v90_64 (.int .i64 1)) fun v91_65 =>
            xIf v91_65 (
              R (.returned (.tuple #[(.slice none 0 0), (.int .i64 3), (vs6.getD 1 undef)])) w16) (
              xP Tryd.prog (sIA 57 a1 (vs6.getD 1 undef)) fun v95_66 =>
            xR Tryd.prog (sLoad 5 v95_66) w16 fun v96_67 =>
            xP Tryd.prog (sConv 5 3 v96_67) fun v97_68 =>
            xJoin (fun J69 =>
              xP Tryd.prog (sFA 123 v11_12 2) fun v99_70 =>
              xR Tryd.prog (sLoad 3 v99_70) w16 fun v100_71 =>
              xP Tryd.prog (sBin .lss 3 v97_68 v100_71) fun v101_72 =>
              xIf v101_72 (
              J69 [(.bool true)] w16) (
              xP Tryd.prog (sFA 123 v11_12 3) fun v104_73 =>
              xR Tryd.prog (sLoad 3 v104_73) w16 fun v105_74 =>
              xP Tryd.prog (sBin .gtr 3 v97_68 v105_74) fun v106_75 =>
              J69 [v106_75] w16)) fun vs76 _ w78 =>
            xIf (vs76.getD 0 undef) (
              R (.returned (.tuple #[(.slice none 0 0), (.int .i64 2), (vs6.getD 1 undef)])) w78) (
              xP Tryd.prog (sBin .add 3 (vs6.getD 1 undef) (.int .i64 1)) fun v110_79 =>
            xLoop [v110_79, (.int .i64 0), (.int .i64 0)] w78 fun J80 vs81 _ w83 =>
              xJoin (fun J84 =>
                xP Tryd.prog (sBin .lss 3 (vs81.getD 2 undef) v97_68) fun v113_85 =>
                xIf v113_85 (
                xR Tryd.prog (sEq .eql 3 true (vs81.getD 1 undef) (.int .i64 0)) w83 fun v116_86 =>
                J84 [v116_86] w83) (
                J84 [(.bool false)] w83)) fun vs87 _ w89 =>
              xIf (vs87.getD 0 undef) (
                xP Tryd.prog (sFA 123 v11_12 4) fun v123_90 =>
              xR Tryd.prog (sLoad 3 v123_90) w89 fun v124_91 =>
              xE Tryd.prog (sCall 67 #[a1, (vs81.getD 0 undef), (.int .i64 0), v124_91]) w89 fun v125_92 w93 =>
              xP Tryd.prog (sExtract v125_92 0) fun v126_94 =>
              xP Tryd.prog (sExtract v125_92 1) fun v127_95 =>
              xP Tryd.prog (sExtract v125_92 2) fun v128_96 =>
              xP Tryd.prog (sFA 93 v12_15 2) fun v129_97 =>
              xR Tryd.prog (sLoad 53 v129_97) w93 fun v130_98 =>
              xE Tryd.prog (sBuildSlice 53 1 #[(0, v126_94)]) w93 fun v132_99 w100 =>
              xE Tryd.prog (sB .append #[53, 53] #[v130_98, v132_99]) w100 fun v133_101 w102 =>
              xP Tryd.prog (sFA 93 v12_15 2) fun v134_103 =>
              xE Tryd.prog (sStore 53 v134_103 v133_101) w102 fun _ w104 =>
              xP Tryd.prog (sBin .add 3 (vs81.getD 2 undef) (.int .i64 1)) fun v119_105 =>
              J80 [v127_95, v128_96, v119_105] w104) (
                J17 [(vs81.getD 0 undef), (vs81.getD 1 undef)] w89)))) (
            J17 [(vs6.getD 1 undef), (.int .i64 0)] w16)))) fun vs106 _ w108 =>
    xR Tryd.prog (sEq .neq 3 true (vs106.getD 1 undef) (.int .i64 0)) w108 fun v136_109 =>
    xIf v136_109 (
      R (.returned (.tuple #[(.slice none 0 0), (vs106.getD 1 undef), (vs6.getD 1 undef)])) w108) (
      xR Tryd.prog (sLoad 93 v12_15) w108 fun v140_110 =>
    xE Tryd.prog (sBuildSlice 88 1 #[(0, v140_110)]) w108 fun v141_111 w112 =>
    xE Tryd.prog (sB .append #[88, 88] #[(vs6.getD 0 undef), v141_111]) w112 fun v142_113 w114 =>
    xP Tryd.prog (sBin .add 3 (vs6.getD 2 undef) (.int .i64 1)) fun v144_115 =>
    J5 [v142_113, (vs106.getD 0 undef), v144_115] w114)) (
      xP Tryd.prog (sB .len #[57] #[a1]) fun v147_116 =>
  xP Tryd.prog (sBin .lss 3 (vs6.getD 1 undef) v147_116) fun v148_117 =>
  xIf v148_117 (
    R (.returned (.tuple #[(.slice none 0 0), (.int .i64 4), (vs6.getD 1 undef)])) w8) (
    R (.returned (.tuple #[(vs6.getD 0 undef), (.int .i64 0), (.int .i64 0)])) w8)))
theorem C_staveref1_GetFields {a0 : Value} {a1 : Value} {w : World} {R : Ending → World → Prop} (h : S_staveref1_GetFields a0 a1 w R) : Calls Tryd.prog 45 #[a0, a1] w R :=
  funcVC_sound (an := A_staveref1_GetFields) (args := [a0, a1]) (k := 2) Tryd.func45 (by kernel_rfl) rfl
    (Eq.mp (show S_staveref1_GetFields a0 a1 w R = funcVC Tryd.prog Tryd.f45 A_staveref1_GetFields [a0, a1] w R by kernel_rfl) h)

/-- stave/staveref1.Big -/
def A_staveref1_Big : Ann := (.seq .nil (.seq .nil (.seq (.seq .nil (.one (.loop [3, 4] .nil))) .nil)))
def S_staveref1_Big (a0 : Value) (w : World) (R : Ending → World → Prop) : Prop :=
  xP Tryd.prog (sB .len #[57] #[a0]) fun v6_1 =>
  xP Tryd.prog (sBin .sub 3 v6_1 (.int .i64 1)) fun v7_2 =>
  xLoop [(.int .u64 0), v7_2] w fun J3 vs4 _ w6 =>
    xP Tryd.prog (sBin .geq 3 (vs4.getD 1 undef) (.int .i64 0)) fun v9_7 =>
    xIf v9_7 (
      xP Tryd.prog (sBin .shl 97 (vs4.getD 0 undef) (.int .u64 8)) fun v13_8 =>
    xP Tryd.prog (sIA 57 a0 (vs4.getD 1 undef)) fun v16_9 =>
    xR Tryd.prog (sLoad 5 v16_9) w6 fun v17_10 =>
    xP Tryd.prog (sConv 5 97 v17_10) fun v18_11 =>
    xP Tryd.prog (sBin .or 97 v13_8 v18_11) fun v19_12 =>
    xP Tryd.prog (sBin .sub 3 (vs4.getD 1 undef) (.int .i64 1)) fun v11_13 =>
    J3 [v19_12, v11_13] w6) (
      R (.returned (vs4.getD 0 undef)) w6)
theorem C_staveref1_Big {a0 : Value} {w : World} {R : Ending → World → Prop} (h : S_staveref1_Big a0 w R) : Calls Tryd.prog 46 #[a0] w R :=
  funcVC_sound (an := A_staveref1_Big) (args := [a0]) (k := 1) Tryd.func46 (by kernel_rfl) rfl
    (Eq.mp (show S_staveref1_Big a0 w R = funcVC Tryd.prog Tryd.f46 A_staveref1_Big [a0] w R by kernel_rfl) h)

/-- stave/stavebook.Same[string] -/
def A_stavebook_Same_string : Ann := (.seq .nil (.seq .nil (.seq (.seq .nil (.one (.loop [5] (.seq .nil (.seq (.one (.seq (.draw (.pre [0, 1, 2, 3, 4, 5, 6, 7, 8] .nil) [0, 0, 3, 7, 0, 0, 48, 112, 255]) .nil)) .nil))))) .nil)))
def S_stavebook_Same_string (a0 : Value) (a1 : Value) (w : World) (R : Ending → World → Prop) : Prop :=
  xP Tryd.prog (sB .len #[53] #[a0]) fun v7_1 =>
  xP Tryd.prog (sB .len #[53] #[a1]) fun v9_2 =>
  xR Tryd.prog (sEq .neq 3 false v7_1 v9_2) w fun v10_3 =>
  xIf v10_3 (
    R (.returned (.bool false)) w) (
    xLoop [(.int .i64 0)] w fun J4 vs5 _ w7 =>
    xP Tryd.prog (sB .len #[53] #[a0]) fun v13_8 =>
    xP Tryd.prog (sBin .lss 3 (vs5.getD 0 undef) v13_8) fun v14_9 =>
    xIf v14_9 (
      xP Tryd.prog (sIA 53 a0 (vs5.getD 0 undef)) fun v19_10 =>
    xR Tryd.prog (sLoad 9 v19_10) (w7.drew) fun v20_11 =>
    xP Tryd.prog (sIA 53 a1 (vs5.getD 0 undef)) fun v23_12 =>
    xR Tryd.prog (sLoad 9 v23_12) (w7.drew) fun v24_13 =>
    xR Tryd.prog (sEq .neq 9 false v20_11 v24_13) (w7.drew) fun v25_14 =>
    xIf v25_14 (
      R (.returned (.bool false)) (w7.drew)) (
      xP Tryd.prog (sBin .add 3 (vs5.getD 0 undef) (.int .i64 1)) fun v16_15 =>
    J4 [v16_15] (w7.drew))) (
      R (.returned (.bool true)) w7))
theorem C_stavebook_Same_string {a0 : Value} {a1 : Value} {w : World} {R : Ending → World → Prop} (h : S_stavebook_Same_string a0 a1 w R) : Calls Tryd.prog 47 #[a0, a1] w R :=
  funcVC_sound (an := A_stavebook_Same_string) (args := [a0, a1]) (k := 2) Tryd.func47 (by kernel_rfl) rfl
    (Eq.mp (show S_stavebook_Same_string a0 a1 w R = funcVC Tryd.prog Tryd.f47 A_stavebook_Same_string [a0, a1] w R by kernel_rfl) h)

/-- stave/stavebook.Same[stave/api.Fetched] -/
def A_stavebook_Same_api_Fetched : Ann := (.seq .nil (.seq .nil (.seq (.seq .nil (.one (.loop [5] (.seq .nil (.seq (.one (.seq (.draw (.pre [0, 1, 2, 3, 4, 5, 6, 7, 8] .nil) [0, 0, 3, 7, 0, 0, 48, 112, 255]) .nil)) .nil))))) .nil)))
def S_stavebook_Same_api_Fetched (a0 : Value) (a1 : Value) (w : World) (R : Ending → World → Prop) : Prop :=
  xP Tryd.prog (sB .len #[54] #[a0]) fun v7_1 =>
  xP Tryd.prog (sB .len #[54] #[a1]) fun v9_2 =>
  xR Tryd.prog (sEq .neq 3 false v7_1 v9_2) w fun v10_3 =>
  xIf v10_3 (
    R (.returned (.bool false)) w) (
    xLoop [(.int .i64 0)] w fun J4 vs5 _ w7 =>
    xP Tryd.prog (sB .len #[54] #[a0]) fun v13_8 =>
    xP Tryd.prog (sBin .lss 3 (vs5.getD 0 undef) v13_8) fun v14_9 =>
    xIf v14_9 (
      xP Tryd.prog (sIA 54 a0 (vs5.getD 0 undef)) fun v19_10 =>
    xR Tryd.prog (sLoad 79 v19_10) (w7.drew) fun v20_11 =>
    xP Tryd.prog (sIA 54 a1 (vs5.getD 0 undef)) fun v23_12 =>
    xR Tryd.prog (sLoad 79 v23_12) (w7.drew) fun v24_13 =>
    xR Tryd.prog (sEq .neq 79 false v20_11 v24_13) (w7.drew) fun v25_14 =>
    xIf v25_14 (
      R (.returned (.bool false)) (w7.drew)) (
      xP Tryd.prog (sBin .add 3 (vs5.getD 0 undef) (.int .i64 1)) fun v16_15 =>
    J4 [v16_15] (w7.drew))) (
      R (.returned (.bool true)) w7))
theorem C_stavebook_Same_api_Fetched {a0 : Value} {a1 : Value} {w : World} {R : Ending → World → Prop} (h : S_stavebook_Same_api_Fetched a0 a1 w R) : Calls Tryd.prog 48 #[a0, a1] w R :=
  funcVC_sound (an := A_stavebook_Same_api_Fetched) (args := [a0, a1]) (k := 2) Tryd.func48 (by kernel_rfl) rfl
    (Eq.mp (show S_stavebook_Same_api_Fetched a0 a1 w R = funcVC Tryd.prog Tryd.f48 A_stavebook_Same_api_Fetched [a0, a1] w R by kernel_rfl) h)

/-- errors.as -/
def A_errors_as : Ann := (.seq .nil (.one (.loop [0] (.one (.seq .nil (.seq (.seq .nil (.join [35] .nil .nil)) (.seq .nil (.one (.seq .nil (.seq .nil (.seq .nil (.seq (.seq .nil (.seq (.seq .nil (.one (.loop [50] (.seq .nil (.seq .nil (.join [] .nil .nil)))))) .nil)) .nil))))))))))))
def S_errors_as (a0 : Value) (a1 : Value) (a2 : Value) (a3 : Value) (w : World) (R : Ending → World → Prop) : Prop :=
  xE Tryd.prog (sBox 106 a2) w fun v6_1 w2 =>
  xLoop [a0] w2 fun J3 vs4 _ w6 =>
    xE Tryd.prog (sCall 53 #[(vs4.getD 0 undef)]) w6 fun v17_7 w8 =>
    xE Tryd.prog (sInvoke "AssignableTo" #[v17_7, a3]) w8 fun v19_9 w10 =>
    xIf v19_9 (
      xR Tryd.prog (sLoad 106 v6_1) w10 fun v20_11 =>
      xE Tryd.prog (sCall 68 #[v20_11]) w10 fun v21_12 w13 =>
      xE Tryd.prog (sCall 49 #[(vs4.getD 0 undef)]) w13 fun v23_14 w15 =>
      xE Tryd.prog (sCall 69 #[v21_12, v23_14]) w15 fun _ w17 =>
      R (.returned (.bool true)) w17) (
      xP Tryd.prog (sAssert (vs4.getD 0 undef) 27 141 true) fun v27_18 =>
    xP Tryd.prog (sExtract v27_18 0) fun v28_19 =>
    xP Tryd.prog (sExtract v27_18 1) fun v29_20 =>
    xJoin (fun J21 =>
      xIf v29_20 (
      xE Tryd.prog (sInvoke "As" #[v28_19, a1]) w10 fun v34_22 w23 =>
      J21 [v34_22] w23) (
      J21 [(.bool false)] w10)) fun vs24 _ w26 =>
    xIf (vs24.getD 0 undef) (
      R (.returned (.bool true)) w26) (
      xP Tryd.prog (sAssert (vs4.getD 0 undef) 27 144 true) fun v37_27 =>
    xP Tryd.prog (sExtract v37_27 1) fun v38_28 =>
    xP Tryd.prog (sExtract v37_27 0) fun v39_29 =>
    xIf v38_28 (
      xE Tryd.prog (sInvoke "Unwrap" #[v39_29]) w26 fun v41_30 w31 =>
      xR Tryd.prog (sEq .eql 27 true v41_30 (.nilIface)) w31 fun v43_32 =>
      xIf v43_32 (
        R (.returned (.bool false)) w31) (
        J3 [v41_30] w31)) (
      xP Tryd.prog (sAssert (vs4.getD 0 undef) 27 146 true) fun v44_33 =>
      xP Tryd.prog (sExtract v44_33 1) fun v45_34 =>
      xP Tryd.prog (sExtract v44_33 0) fun v46_35 =>
      xIf v45_34 (
        xE Tryd.prog (sInvoke "Unwrap" #[v46_35]) w26 fun v48_36 w37 =>
        xP Tryd.prog (sB .len #[147] #[v48_36]) fun v49_38 =>
        xLoop [(.int .i64 0)] w37 fun J39 vs40 _ w42 =>
          xP Tryd.prog (sBin .lss 3 (vs40.getD 0 undef) v49_38) fun v51_43 =>
          xIf v51_43 (
            xJoin (fun J44 =>
            xP Tryd.prog (sIA 147 v48_36 (vs40.getD 0 undef)) fun v52_45 =>
            xR Tryd.prog (sLoad 27 v52_45) w42 fun v53_46 =>
            xR Tryd.prog (sEq .eql 27 true v53_46 (.nilIface)) w42 fun v55_47 =>
            xIf v55_47 (
              J44 [] w42) (
              xR Tryd.prog (sLoad 106 v6_1) w42 fun v58_48 =>
            xE Tryd.prog (sCall 52 #[v53_46, a1, v58_48, a3]) w42 fun v60_49 w50 =>
            xIf v60_49 (
              R (.returned (.bool true)) w50) (
              J44 [] w50))) fun _ _ w53 =>
          xP Tryd.prog (sBin .add 3 (vs40.getD 0 undef) (.int .i64 1)) fun v61_54 =>
          J39 [v61_54] w53) (
            R (.returned (.bool false)) w42)) (
        R (.returned (.bool false)) w26))))
theorem C_errors_as {a0 : Value} {a1 : Value} {a2 : Value} {a3 : Value} {w : World} {R : Ending → World → Prop} (h : S_errors_as a0 a1 a2 a3 w R) : Calls Tryd.prog 52 #[a0, a1, a2, a3] w R :=
  funcVC_sound (an := A_errors_as) (args := [a0, a1, a2, a3]) (k := 4) Tryd.func52 (by kernel_rfl) rfl
    (Eq.mp (show S_errors_as a0 a1 a2 a3 w R = funcVC Tryd.prog Tryd.f52 A_errors_as [a0, a1, a2, a3] w R by kernel_rfl) h)

/-- errors.is -/
def A_errors_is : Ann := (.seq .nil (.one (.loop [0] (.one (.seq (.join [19] .nil .nil) (.seq (.seq .nil (.join [30] .nil .nil)) (.seq .nil (.one (.seq .nil (.seq .nil (.seq .nil (.seq (.seq .nil (.seq (.seq .nil (.one (.loop [45] .nil))) .nil)) .nil))))))))))))
def S_errors_is (a0 : Value) (a1 : Value) (a2 : Value) (w : World) (R : Ending → World → Prop) : Prop :=
  xLoop [a0] w fun J1 vs2 _ w4 =>
    xJoin (fun J5 =>
      xIf a2 (
      xR Tryd.prog (sEq .eql 27 false (vs2.getD 0 undef) a1) w4 fun v18_6 =>
      J5 [v18_6] w4) (
      J5 [(.bool false)] w4)) fun vs7 _ w9 =>
    xIf (vs7.getD 0 undef) (
      R (.returned (.bool true)) w9) (
      xP Tryd.prog (sAssert (vs2.getD 0 undef) 27 149 true) fun v22_10 =>
    xP Tryd.prog (sExtract v22_10 0) fun v23_11 =>
    xP Tryd.prog (sExtract v22_10 1) fun v24_12 =>
    xJoin (fun J13 =>
      xIf v24_12 (
      xE Tryd.prog (sInvoke "Is" #[v23_11, a1]) w9 fun v29_14 w15 =>
      J13 [v29_14] w15) (
      J13 [(.bool false)] w9)) fun vs16 _ w18 =>
    xIf (vs16.getD 0 undef) (
      R (.returned (.bool true)) w18) (
      xP Tryd.prog (sAssert (vs2.getD 0 undef) 27 144 true) fun v32_19 =>
    xP Tryd.prog (sExtract v32_19 1) fun v33_20 =>
    xP Tryd.prog (sExtract v32_19 0) fun v34_21 =>
    xIf v33_20 (
      xE Tryd.prog (sInvoke "Unwrap" #[v34_21]) w18 fun v36_22 w23 =>
      xR Tryd.prog (sEq .eql 27 true v36_22 (.nilIface)) w23 fun v38_24 =>
      xIf v38_24 (
        R (.returned (.bool false)) w23) (
        J1 [v36_22] w23)) (
      xP Tryd.prog (sAssert (vs2.getD 0 undef) 27 146 true) fun v39_25 =>
      xP Tryd.prog (sExtract v39_25 1) fun v40_26 =>
      xP Tryd.prog (sExtract v39_25 0) fun v41_27 =>
      xIf v40_26 (
        xE Tryd.prog (sInvoke "Unwrap" #[v41_27]) w18 fun v43_28 w29 =>
        xP Tryd.prog (sB .len #[147] #[v43_28]) fun v44_30 =>
        xLoop [(.int .i64 0)] w29 fun J31 vs32 _ w34 =>
          xP Tryd.prog (sBin .lss 3 (vs32.getD 0 undef) v44_30) fun v46_35 =>
          xIf v46_35 (
            xP Tryd.prog (sIA 147 v43_28 (vs32.getD 0 undef)) fun v47_36 =>
          xR Tryd.prog (sLoad 27 v47_36) w34 fun v48_37 =>
          xE Tryd.prog (sCall 54 #[v48_37, a1, a2]) w34 fun v52_38 w39 =>
          xIf v52_38 (
            R (.returned (.bool true)) w39) (
            xP Tryd.prog (sBin .add 3 (vs32.getD 0 undef) (.int .i64 1)) fun v53_40 =>
          J31 [v53_40] w39)) (
            R (.returned (.bool false)) w34)) (
        R (.returned (.bool false)) w18))))
theorem C_errors_is {a0 : Value} {a1 : Value} {a2 : Value} {w : World} {R : Ending → World → Prop} (h : S_errors_is a0 a1 a2 w R) : Calls Tryd.prog 54 #[a0, a1, a2] w R :=
  funcVC_sound (an := A_errors_is) (args := [a0, a1, a2]) (k := 3) Tryd.func54 (by kernel_rfl) rfl
    (Eq.mp (show S_errors_is a0 a1 a2 w R = funcVC Tryd.prog Tryd.f54 A_errors_is [a0, a1, a2] w R by kernel_rfl) h)

/-- stave/reply.text -/
def A_reply_text : Ann := (.seq .nil (.seq .nil (.seq (.seq .nil (.one (.loop [8] .nil))) .nil)))
def S_reply_text (a0 : Value) (w : World) (R : Ending → World → Prop) : Prop :=
  xE Tryd.prog (sBox 79 a0) w fun v1_1 w2 =>
  xE Tryd.prog (sMakeSlice 57 (.int .i64 8) (.int .i64 8)) w2 fun v5_3 w4 =>
  xP Tryd.prog (sB .len #[57] #[v5_3]) fun v7_5 =>
  xLoop [(.int .i64 0)] w4 fun J6 vs7 _ w9 =>
    xP Tryd.prog (sBin .lss 3 (vs7.getD 0 undef) v7_5) fun v9_10 =>
    xIf v9_10 (
      xP Tryd.prog (sFA 79 v1_1 0) fun v13_11 =>
    xR Tryd.prog (sLoad 3 v13_11) w9 fun v14_12 =>
    xP Tryd.prog (sBin .mul 3 (.int .i64 8) (vs7.getD 0 undef)) fun v16_13 =>
    xP Tryd.prog (sConv 3 133 v16_13) fun v17_14 =>
    xP Tryd.prog (sBin .shr 3 v14_12 v17_14) fun v18_15 =>
    xP Tryd.prog (sConv 3 5 v18_15) fun v19_16 =>
    xP Tryd.prog (sIA 57 v5_3 (vs7.getD 0 undef)) fun v20_17 =>
    xE Tryd.prog (sStore 5 v20_17 v19_16) w9 fun _ w18 =>
    xP Tryd.prog (sBin .add 3 (vs7.getD 0 undef) (.int .i64 1)) fun v21_19 =>
    J6 [v21_19] w18) (
      xE Tryd.prog (sConv 57 9 v5_3) w9 fun v23_20 w21 =>
  xP Tryd.prog (sFA 79 v1_1 1) fun v24_22 =>
  xR Tryd.prog (sLoad 9 v24_22) w21 fun v25_23 =>
  xP Tryd.prog (sBin .add 9 v23_20 v25_23) fun v26_24 =>
  R (.returned v26_24) w21)
theorem C_reply_text {a0 : Value} {w : World} {R : Ending → World → Prop} (h : S_reply_text a0 w R) : Calls Tryd.prog 56 #[a0] w R :=
  funcVC_sound (an := A_reply_text) (args := [a0]) (k := 1) Tryd.func56 (by kernel_rfl) rfl
    (Eq.mp (show S_reply_text a0 w R = funcVC Tryd.prog Tryd.f56 A_reply_text [a0] w R by kernel_rfl) h)

/-- stave/gram.Put -/
def A_gram_Put : Ann := (.seq .nil (.seq .nil (.seq .nil (.seq .nil (.seq (.seq .nil (.one (.loop [7, 28] (.seq .nil (.seq .nil (.seq (.one (.seq .nil (.seq (.seq (.draw (.pre [0, 1, 2, 3, 4, 5, 6] .nil) [0, 0, 0, 6, 14, 31, 63]) .nil) (.draw (.pre [0, 1, 2, 3, 4, 5, 6, 7, 8] .nil) [0, 0, 0, 0, 12, 28, 62, 127, 255])))) .nil)))))) .nil)))))
def S_gram_Put (a0 : Value) (a1 : Value) (w : World) (R : Ending → World → Prop) : Prop :=
  xE Tryd.prog (sCall 65 #[a0]) w fun v11_1 w2 =>
  xP Tryd.prog (sBin .geq 3 v11_1 (.int .i64 0)) fun v13_3 =>
  xIf v13_3 (
    xP Tryd.prog (sIface 31 (.int .i64 1)) fun v15_4 =>
    xE Tryd.prog (sCall 32 #[(.string (ByteArray.mk #[103, 114, 97, 109, 46, 80, 117, 116])), v11_1, v15_4]) w2 fun v16_5 w6 =>
    R (.returned (.tuple #[(.slice none 0 0), v16_5])) w6) (
    xP Tryd.prog (sB .len #[88] #[a1]) fun v18_7 =>
  xP Tryd.prog (sB .len #[86] #[a0]) fun v20_8 =>
  xR Tryd.prog (sEq .neq 3 false v18_7 v20_8) w2 fun v21_9 =>
  xIf v21_9 (
    xP Tryd.prog (sB .len #[88] #[a1]) fun v23_10 =>
    xP Tryd.prog (sIface 31 (.int .i64 1)) fun v24_11 =>
    xE Tryd.prog (sCall 32 #[(.string (ByteArray.mk #[103, 114, 97, 109, 46, 80, 117, 116])), v23_10, v24_11]) w2 fun v25_12 w13 =>
    R (.returned (.tuple #[(.slice none 0 0), v25_12])) w13) (
    xP Tryd.prog (sB .len #[86] #[a0]) fun v27_14 =>
  xLoop [(.slice none 0 0), (.int .i64 0)] w2 fun J15 vs16 _ w18 =>
    xP Tryd.prog (sBin .lss 3 (vs16.getD 1 undef) v27_14) fun v29_19 =>
    xIf v29_19 (
      xP Tryd.prog (sIA 86 a0 (vs16.getD 1 undef)) fun v31_20 =>
    xR Tryd.prog (sLoad 123 v31_20) w18 fun v32_21 =>
    xE Tryd.prog (sAlloc 123) w18 fun v9_22 w23 =>
    xE Tryd.prog (sStore 123 v9_22 v32_21) w23 fun _ w24 =>
    xR Tryd.prog (sLoad 123 v9_22) (w24.drew) fun v33_25 =>
    xP Tryd.prog (sIA 88 a1 (vs16.getD 1 undef)) fun v36_26 =>
    xR Tryd.prog (sLoad 93 v36_26) (w24.drew) fun v37_27 =>
    xE Tryd.prog (sCall 70 #[v33_25, v37_27]) (w24.drew) fun v38_28 w29 =>
    xP Tryd.prog (sUn .not v38_28) fun v39_30 =>
    xIf v39_30 (
      xP Tryd.prog (sIface 31 (.int .i64 2)) fun v41_31 =>
      xE Tryd.prog (sCall 32 #[(.string (ByteArray.mk #[103, 114, 97, 109, 46, 80, 117, 116])), (vs16.getD 1 undef), v41_31]) w29 fun v42_32 w33 =>
      R (.returned (.tuple #[(.slice none 0 0), v42_32])) w33) (
      xR Tryd.prog (sLoad 123 v9_22) (w29.drew) fun v44_34 =>
    xP Tryd.prog (sIA 88 a1 (vs16.getD 1 undef)) fun v47_35 =>
    xR Tryd.prog (sLoad 93 v47_35) (w29.drew) fun v48_36 =>
    xE Tryd.prog (sCall 71 #[v44_34, v48_36]) (w29.drew) fun v49_37 w38 =>
    xE Tryd.prog (sB .append #[57, 57] #[(vs16.getD 0 undef), v49_37]) w38 fun v50_39 w40 =>
    xP Tryd.prog (sBin .add 3 (vs16.getD 1 undef) (.int .i64 1)) fun v51_41 =>
    J15 [v50_39, v51_41] w40)) (
      R (.returned (.tuple #[(vs16.getD 0 undef), (.nilIface)])) w18)))
theorem C_gram_Put {a0 : Value} {a1 : Value} {w : World} {R : Ending → World → Prop} (h : S_gram_Put a0 a1 w R) : Calls Tryd.prog 57 #[a0, a1] w R :=
  funcVC_sound (an := A_gram_Put) (args := [a0, a1]) (k := 2) Tryd.func57 (by kernel_rfl) rfl
    (Eq.mp (show S_gram_Put a0 a1 w R = funcVC Tryd.prog Tryd.f57 A_gram_Put [a0, a1] w R by kernel_rfl) h)

/-- slices.IndexFunc[[]stave/api.Fetched,stave/api.Fetched] -/
def A_slices_IndexFunc_api_Fetched : Ann := (.seq .nil (.seq (.seq .nil (.one (.loop [8] .nil))) .nil))
def S_slices_IndexFunc_api_Fetched (a0 : Value) (a1 : Value) (w : World) (R : Ending → World → Prop) : Prop :=
  xP Tryd.prog (sB .len #[54] #[a0]) fun v7_1 =>
  xLoop [(.int .i64 0)] w fun J2 vs3 _ w5 =>
    xP Tryd.prog (sBin .lss 3 (vs3.getD 0 undef) v7_1) fun v9_6 =>
    xIf v9_6 (
      xP Tryd.prog (sIA 54 a0 (vs3.getD 0 undef)) fun v14_7 =>
    xR Tryd.prog (sLoad 79 v14_7) w5 fun v15_8 =>
    xE Tryd.prog (sCallV a1 #[v15_8]) w5 fun v16_9 w10 =>
    xIf v16_9 (
      R (.returned (vs3.getD 0 undef)) w10) (
      xP Tryd.prog (sBin .add 3 (vs3.getD 0 undef) (.int .i64 1)) fun v18_11 =>
    J2 [v18_11] w10)) (
      R (.returned (.int .i64 (-1))) w5)
theorem C_slices_IndexFunc_api_Fetched {a0 : Value} {a1 : Value} {w : World} {R : Ending → World → Prop} (h : S_slices_IndexFunc_api_Fetched a0 a1 w R) : Calls Tryd.prog 58 #[a0, a1] w R :=
  funcVC_sound (an := A_slices_IndexFunc_api_Fetched) (args := [a0, a1]) (k := 2) Tryd.func58 (by kernel_rfl) rfl
    (Eq.mp (show S_slices_IndexFunc_api_Fetched a0 a1 w R = funcVC Tryd.prog Tryd.f58 A_slices_IndexFunc_api_Fetched [a0, a1] w R by kernel_rfl) h)

/-- stave/staveref1.RightFields -/
def A_staveref1_RightFields : Ann := (.seq .nil (.seq (.seq .nil (.one (.loop [7] .nil))) .nil))
def S_staveref1_RightFields (a0 : Value) (w : World) (R : Ending → World → Prop) : Prop :=
  xP Tryd.prog (sB .len #[86] #[a0]) fun v6_1 =>
  xLoop [(.int .i64 0)] w fun J2 vs3 _ w5 =>
    xP Tryd.prog (sBin .lss 3 (vs3.getD 0 undef) v6_1) fun v8_6 =>
    xIf v8_6 (
      xP Tryd.prog (sIA 86 a0 (vs3.getD 0 undef)) fun v10_7 =>
    xR Tryd.prog (sLoad 123 v10_7) w5 fun v11_8 =>
    xE Tryd.prog (sAlloc 123) w5 fun v4_9 w10 =>
    xE Tryd.prog (sStore 123 v4_9 v11_8) w10 fun _ w11 =>
    xR Tryd.prog (sLoad 123 v4_9) w11 fun v12_12 =>
    xE Tryd.prog (sCall 72 #[v12_12]) w11 fun v13_13 w14 =>
    xP Tryd.prog (sUn .not v13_13) fun v14_15 =>
    xIf v14_15 (
      R (.returned (vs3.getD 0 undef)) w14) (
      xP Tryd.prog (sBin .add 3 (vs3.getD 0 undef) (.int .i64 1)) fun v16_16 =>
    J2 [v16_16] w14)) (
      R (.returned (.int .i64 (-1))) w5)
theorem C_staveref1_RightFields {a0 : Value} {w : World} {R : Ending → World → Prop} (h : S_staveref1_RightFields a0 w R) : Calls Tryd.prog 59 #[a0] w R :=
  funcVC_sound (an := A_staveref1_RightFields) (args := [a0]) (k := 1) Tryd.func59 (by kernel_rfl) rfl
    (Eq.mp (show S_staveref1_RightFields a0 w R = funcVC Tryd.prog Tryd.f59 A_staveref1_RightFields [a0] w R by kernel_rfl) h)

/-- stave/staveref1.fits -/
def A_staveref1_fits : Ann := (.seq .nil (.seq .nil (.seq (.seq .nil (.one (.loop [64] .nil))) .nil)))
def S_staveref1_fits (a0 : Value) (a1 : Value) (w : World) (R : Ending → World → Prop) : Prop :=
  xE Tryd.prog (sBox 123 a0) w fun v2_1 w2 =>
  xE Tryd.prog (sBox 93 a1) w2 fun v3_3 w4 =>
  xP Tryd.prog (sFA 123 v2_1 0) fun v7_5 =>
  xR Tryd.prog (sLoad 3 v7_5) w4 fun v8_6 =>
  xR Tryd.prog (sEq .eql 3 true v8_6 (.int .i64 1)) w4 fun v10_7 =>
  xIf v10_7 (
    xP Tryd.prog (sFA 93 v3_3 0) fun v11_8 =>
    xR Tryd.prog (sLoad 3 v11_8) w4 fun v12_9 =>
    xP Tryd.prog (sFA 123 v2_1 2) fun v13_10 =>
    xR Tryd.prog (sLoad 3 v13_10) w4 fun v14_11 =>
    xP Tryd.prog (sBin .geq 3 v12_9 v14_11) fun v15_12 =>
    xIf v15_12 (
    xP Tryd.prog (sFA 93 v3_3 0) fun v17_13 =>
    xR Tryd.prog (sLoad 3 v17_13) w4 fun v18_14 =>
    xP Tryd.prog (sFA 123 v2_1 3) fun v19_15 =>
    xR Tryd.prog (sLoad 3 v19_15) w4 fun v20_16 =>
    xP Tryd.prog (sBin .leq 3 v18_14 v20_16) fun v21_17 =>
    xIf v21_17 (
    xP Tryd.prog (sFA 93 v3_3 1) fun v24_18 =>
    xR Tryd.prog (sLoad 9 v24_18) w4 fun v25_19 =>
    xR Tryd.prog (sEq .eql 9 true v25_19 (.string (ByteArray.mk #[]))) w4 fun v26_20 =>
    xIf v26_20 (
    xP Tryd.prog (sFA 93 v3_3 2) fun v29_21 =>
    xR Tryd.prog (sLoad 53 v29_21) w4 fun v30_22 =>
    xP Tryd.prog (sB .len #[53] #[v30_22]) fun v31_23 =>
    xR Tryd.prog (sEq .eql 3 true v31_23 (.int .i64 0)) w4 fun v32_24 =>
    R (.returned v32_24) w4) (
    R (.returned (.bool false)) w4)) (
    R (.returned (.bool false)) w4)) (
    R (.returned (.bool false)) w4)) (
    xR Tryd.prog (sEq .eql 3 true v8_6 (.int .i64 2)) w4 fun v35_25 =>
    xIf v35_25 (
      xP Tryd.prog (sFA 93 v3_3 1) fun v36_26 =>
      xR Tryd.prog (sLoad 9 v36_26) w4 fun v37_27 =>
      xP Tryd.prog (sB .len #[9] #[v37_27]) fun v38_28 =>
      xP Tryd.prog (sFA 123 v2_1 2) fun v39_29 =>
      xR Tryd.prog (sLoad 3 v39_29) w4 fun v40_30 =>
      xP Tryd.prog (sBin .geq 3 v38_28 v40_30) fun v41_31 =>
      xIf v41_31 (
      xP Tryd.prog (sFA 93 v3_3 1) fun v43_32 =>
      xR Tryd.prog (sLoad 9 v43_32) w4 fun v44_33 =>
      xP Tryd.prog (sB .len #[9] #[v44_33]) fun v45_34 =>
      xP Tryd.prog (sFA 123 v2_1 3) fun v46_35 =>
      xR Tryd.prog (sLoad 3 v46_35) w4 fun v47_36 =>
      xP Tryd.prog (sBin .leq 3 v45_34 v47_36) fun v48_37 =>
      xIf v48_37 (
      xP Tryd.prog (sFA 93 v3_3 0) fun v51_38 =>
      xR Tryd.prog (sLoad 3 v51_38) w4 fun v52_39 =>
      xR Tryd.prog (sEq .eql 3 true v52_39 (.int .i64 0)) w4 fun v53_40 =>
      xIf v53_40 (
      xP Tryd.prog (sFA 93 v3_3 2) fun v56_41 =>
      xR Tryd.prog (sLoad 53 v56_41) w4 fun v57_42 =>
      xP Tryd.prog (sB .len #[53] #[v57_42]) fun v58_43 =>
      xR Tryd.prog (sEq .eql 3 true v58_43 (.int .i64 0)) w4 fun v59_44 =>
      R (.returned v59_44) w4) (
      R (.returned (.bool false)) w4)) (
      R (.returned (.bool false)) w4)) (
      R (.returned (.bool false)) w4)) (
      xP Tryd.prog (sFA 93 v3_3 2) fun v61_45 =>
  xR Tryd.prog (sLoad 53 v61_45) w4 fun v62_46 =>
  xP Tryd.prog (sB .len #[53] #[v62_46]) fun v63_47 =>
  xLoop [(.int .i64 0)] w4 fun J48 vs49 _ w51 =>
    xP Tryd.prog (sBin .lss 3 (vs49.getD 0 undef) v63_47) fun v65_52 =>
    xIf v65_52 (
      xP Tryd.prog (sIA 53 v62_46 (vs49.getD 0 undef)) fun v66_53 =>
    xR Tryd.prog (sLoad 9 v66_53) w51 fun v67_54 =>
    xP Tryd.prog (sB .len #[9] #[v67_54]) fun v69_55 =>
    xP Tryd.prog (sFA 123 v2_1 4) fun v70_56 =>
    xR Tryd.prog (sLoad 3 v70_56) w51 fun v71_57 =>
    xP Tryd.prog (sBin .gtr 3 v69_55 v71_57) fun v72_58 =>
    xIf v72_58 (
      R (.returned (.bool false)) w51) (
      xP Tryd.prog (sBin .add 3 (vs49.getD 0 undef) (.int .i64 1)) fun v73_59 =>
    J48 [v73_59] w51)) (
      xP Tryd.prog (sFA 93 v3_3 2) fun v74_60 =>
  xR Tryd.prog (sLoad 53 v74_60) w51 fun v75_61 =>
  xP Tryd.prog (sB .len #[53] #[v75_61]) fun v76_62 =>
  xP Tryd.prog (sFA 123 v2_1 2) fun v77_63 =>
  xR Tryd.prog (sLoad 3 v77_63) w51 fun v78_64 =>
  xP Tryd.prog (sBin .geq 3 v76_62 v78_64) fun v79_65 =>
  xIf v79_65 (
  xP Tryd.prog (sFA 93 v3_3 2) fun v81_66 =>
  xR Tryd.prog (sLoad 53 v81_66) w51 fun v82_67 =>
  xP Tryd.prog (sB .len #[53] #[v82_67]) fun v83_68 =>
  xP Tryd.prog (sFA 123 v2_1 3) fun v84_69 =>
  xR Tryd.prog (sLoad 3 v84_69) w51 fun v85_70 =>
  xP Tryd.prog (sBin .leq 3 v83_68 v85_70) fun v86_71 =>
  xIf v86_71 (
  xP Tryd.prog (sFA 93 v3_3 0) fun v89_72 =>
  xR Tryd.prog (sLoad 3 v89_72) w51 fun v90_73 =>
  xR Tryd.prog (sEq .eql 3 true v90_73 (.int .i64 0)) w51 fun v91_74 =>
  xIf v91_74 (
  xP Tryd.prog (sFA 93 v3_3 1) fun v94_75 =>
  xR Tryd.prog (sLoad 9 v94_75) w51 fun v95_76 =>
  xR Tryd.prog (sEq .eql 9 true v95_76 (.string (ByteArray.mk #[]))) w51 fun v96_77 =>
  R (.returned v96_77) w51) (
  R (.returned (.bool false)) w51)) (
  R (.returned (.bool false)) w51)) (
  R (.returned (.bool false)) w51))))
theorem C_staveref1_fits {a0 : Value} {a1 : Value} {w : World} {R : Ending → World → Prop} (h : S_staveref1_fits a0 a1 w R) : Calls Tryd.prog 60 #[a0, a1] w R :=
  funcVC_sound (an := A_staveref1_fits) (args := [a0, a1]) (k := 2) Tryd.func60 (by kernel_rfl) rfl
    (Eq.mp (show S_staveref1_fits a0 a1 w R = funcVC Tryd.prog Tryd.f60 A_staveref1_fits [a0, a1] w R by kernel_rfl) h)

/-- stave/staveref1.Num -/
def A_staveref1_Num : Ann := (.seq .nil (.seq .nil (.seq (.seq .nil (.one (.loop [7, 8] .nil))) .nil)))
def S_staveref1_Num (a0 : Value) (a1 : Value) (a2 : Value) (w : World) (R : Ending → World → Prop) : Prop :=
  xE Tryd.prog (sBuildSlice 57 0 #[]) w fun v9_1 w2 =>
  xE Tryd.prog (sB .append #[57, 57] #[v9_1, a0]) w2 fun v11_3 w4 =>
  xLoop [v11_3, (.int .i64 0)] w4 fun J5 vs6 _ w8 =>
    xP Tryd.prog (sBin .lss 3 (vs6.getD 1 undef) a2) fun v14_9 =>
    xIf v14_9 (
      xP Tryd.prog (sBin .mul 3 (.int .i64 8) (vs6.getD 1 undef)) fun v20_10 =>
    xP Tryd.prog (sBin .shr 97 a1 v20_10) fun v21_11 =>
    xP Tryd.prog (sConv 97 5 v21_11) fun v22_12 =>
    xE Tryd.prog (sBuildSlice 57 1 #[(0, v22_12)]) w8 fun v23_13 w14 =>
    xE Tryd.prog (sB .append #[57, 57] #[(vs6.getD 0 undef), v23_13]) w14 fun v24_15 w16 =>
    xP Tryd.prog (sBin .add 3 (vs6.getD 1 undef) (.int .i64 1)) fun v16_17 =>
    J5 [v24_15, v16_17] w16) (
      R (.returned (vs6.getD 0 undef)) w8)
theorem C_staveref1_Num {a0 : Value} {a1 : Value} {a2 : Value} {w : World} {R : Ending → World → Prop} (h : S_staveref1_Num a0 a1 a2 w R) : Calls Tryd.prog 61 #[a0, a1, a2] w R :=
  funcVC_sound (an := A_staveref1_Num) (args := [a0, a1, a2]) (k := 3) Tryd.func61 (by kernel_rfl) rfl
    (Eq.mp (show S_staveref1_Num a0 a1 a2 w R = funcVC Tryd.prog Tryd.f61 A_staveref1_Num [a0, a1, a2] w R by kernel_rfl) h)

/-- stave/staveref1.text -/
def A_staveref1_text : Ann := .nil
def S_staveref1_text (a0 : Value) (a1 : Value) (w : World) (R : Ending → World → Prop) : Prop :=
  xP Tryd.prog (sB .len #[9] #[a1]) fun v7_1 =>
  xP Tryd.prog (sConv 3 97 v7_1) fun v8_2 =>
  xE Tryd.prog (sCall 61 #[a0, v8_2, (.int .i64 2)]) w fun v9_3 w4 =>
  xE Tryd.prog (sB .append #[57, 9] #[v9_3, a1]) w4 fun v11_5 w6 =>
  R (.returned v11_5) w6
theorem C_staveref1_text {a0 : Value} {a1 : Value} {w : World} {R : Ending → World → Prop} (h : S_staveref1_text a0 a1 w R) : Calls Tryd.prog 62 #[a0, a1] w R :=
  funcVC_sound (an := A_staveref1_text) (args := [a0, a1]) (k := 2) Tryd.func62 (by kernel_rfl) rfl
    (Eq.mp (show S_staveref1_text a0 a1 w R = funcVC Tryd.prog Tryd.f62 A_staveref1_text [a0, a1] w R by kernel_rfl) h)

/-- stave/staveref19.num -/
def A_staveref19_num : Ann := .nil
def S_staveref19_num (a0 : Value) (a1 : Value) (w : World) (R : Ending → World → Prop) : Prop :=
  xE Tryd.prog (sAlloc 123) w fun v4_1 w2 =>
  xP Tryd.prog (sBuild 123 #[(0, (.int .i64 1)), (1, a0), (3, a1)]) fun v7_3 =>
  xE Tryd.prog (sStore 123 v4_1 v7_3) w2 fun _ w4 =>
  xR Tryd.prog (sLoad 123 v4_1) w4 fun r5 => R (.returned r5) w4
theorem C_staveref19_num {a0 : Value} {a1 : Value} {w : World} {R : Ending → World → Prop} (h : S_staveref19_num a0 a1 w R) : Calls Tryd.prog 63 #[a0, a1] w R :=
  funcVC_sound (an := A_staveref19_num) (args := [a0, a1]) (k := 2) Tryd.func63 (by kernel_rfl) rfl
    (Eq.mp (show S_staveref19_num a0 a1 w R = funcVC Tryd.prog Tryd.f63 A_staveref19_num [a0, a1] w R by kernel_rfl) h)

/-- stave/staveref19.offset -/
def A_staveref19_offset : Ann := .nil
def S_staveref19_offset (w : World) (R : Ending → World → Prop) : Prop :=
  xE Tryd.prog (sAlloc 123) w fun v0_1 w2 =>
  xE Tryd.prog (sCall 63 #[(.int .i64 8), (.int .i64 9223372036854775807)]) w2 fun v1_3 w4 =>
  xE Tryd.prog (sStore 123 v0_1 v1_3) w4 fun _ w5 =>
  xR Tryd.prog (sLoad 123 v0_1) w5 fun r6 => R (.returned r6) w5
theorem C_staveref19_offset {w : World} {R : Ending → World → Prop} (h : S_staveref19_offset  w R) : Calls Tryd.prog 64 #[] w R :=
  funcVC_sound (an := A_staveref19_offset) (args := []) (k := 0) Tryd.func64 (by kernel_rfl) rfl
    (Eq.mp (show S_staveref19_offset  w R = funcVC Tryd.prog Tryd.f64 A_staveref19_offset [] w R by kernel_rfl) h)

/-- stave/gram.wrong -/
def A_gram_wrong : Ann := .nil
def S_gram_wrong (a0 : Value) (w : World) (R : Ending → World → Prop) : Prop :=
  xE Tryd.prog (sCall 73 #[a0, (.func (.func 74) #[] #[])]) w fun v4_1 w2 =>
  R (.returned v4_1) w2
theorem C_gram_wrong {a0 : Value} {w : World} {R : Ending → World → Prop} (h : S_gram_wrong a0 w R) : Calls Tryd.prog 65 #[a0] w R :=
  funcVC_sound (an := A_gram_wrong) (args := [a0]) (k := 1) Tryd.func65 (by kernel_rfl) rfl
    (Eq.mp (show S_gram_wrong a0 w R = funcVC Tryd.prog Tryd.f65 A_gram_wrong [a0] w R by kernel_rfl) h)

/-- (*stave/gram.cursor).value -/
def A_gram_cursor_value : Ann := (.seq .nil (.seq .nil (.join [] (.seq .nil (.one (.seq .nil (.seq .nil (.seq .nil (.seq .nil (.seq .nil (.seq (.seq .nil (.one (.loop [36] (.seq .nil (.seq .nil (.seq (.one (.draw (.pre [0, 1, 2, 3, 4, 5, 6, 7, 8, 9] .nil) [0, 1, 0, 0, 8, 28, 60, 127, 255, 511])) .nil)))))) .nil)))))))) .nil)))
def S_gram_cursor_value (a0 : Value) (a1 : Value) (w : World) (R : Ending → World → Prop) : Prop :=
  xE Tryd.prog (sBox 123 a1) w fun v3_1 w2 =>
  xE Tryd.prog (sAlloc 93) w2 fun v4_3 w4 =>
  xE Tryd.prog (sAlloc 93) w4 fun v5_5 w6 =>
  xJoin (fun J7 =>
    xP Tryd.prog (sFA 123 v3_1 0) fun v6_8 =>
    xR Tryd.prog (sLoad 3 v6_8) w6 fun v7_9 =>
    xR Tryd.prog (sEq .eql 3 true v7_9 (.int .i64 1)) w6 fun v9_10 =>
    xIf v9_10 (
      xP Tryd.prog (sFA 123 v3_1 1) fun v11_11 =>
      xR Tryd.prog (sLoad 3 v11_11) w6 fun v12_12 =>
      xP Tryd.prog (sFA 123 v3_1 2) fun v13_13 =>
      xR Tryd.prog (sLoad 3 v13_13) w6 fun v14_14 =>
      xP Tryd.prog (sFA 123 v3_1 3) fun v15_15 =>
      xR Tryd.prog (sLoad 3 v15_15) w6 fun v16_16 =>
      xE Tryd.prog (sCall 76 #[a0, v12_12, v14_14, v16_16]) w6 fun v17_17 w18 =>
      xP Tryd.prog (sFA 93 v5_5 0) fun v18_19 =>
      xE Tryd.prog (sStore 3 v18_19 v17_17) w18 fun _ w20 =>
      J7 [] w20) (
      xR Tryd.prog (sEq .eql 3 true v7_9 (.int .i64 2)) w6 fun v20_21 =>
      xIf v20_21 (
        xP Tryd.prog (sFA 123 v3_1 2) fun v22_22 =>
        xR Tryd.prog (sLoad 3 v22_22) w6 fun v23_23 =>
        xP Tryd.prog (sFA 123 v3_1 3) fun v24_24 =>
        xR Tryd.prog (sLoad 3 v24_24) w6 fun v25_25 =>
        xE Tryd.prog (sCall 77 #[a0, v23_23, v25_25]) w6 fun v26_26 w27 =>
        xP Tryd.prog (sFA 93 v5_5 1) fun v27_28 =>
        xE Tryd.prog (sStore 9 v27_28 v26_26) w27 fun _ w29 =>
        J7 [] w29) (
        xR Tryd.prog (sEq .eql 3 true v7_9 (.int .i64 3)) w6 fun v29_30 =>
        xIf v29_30 (
          xP Tryd.prog (sFA 123 v3_1 2) fun v31_31 =>
          xR Tryd.prog (sLoad 3 v31_31) w6 fun v32_32 =>
          xP Tryd.prog (sFA 123 v3_1 3) fun v33_33 =>
          xR Tryd.prog (sLoad 3 v33_33) w6 fun v34_34 =>
          xE Tryd.prog (sCall 76 #[a0, (.int .i64 1), v32_32, v34_34]) w6 fun v35_35 w36 =>
          xLoop [(.int .i64 0)] w36 fun J37 vs38 _ w40 =>
            xP Tryd.prog (sBin .lss 3 (vs38.getD 0 undef) v35_35) fun v37_41 =>
            xIf v37_41 (
              xP Tryd.prog (sFA 93 v5_5 2) fun v38_42 =>
            xR Tryd.prog (sLoad 53 v38_42) (w40.drew) fun v39_43 =>
            xP Tryd.prog (sFA 123 v3_1 4) fun v41_44 =>
            xR Tryd.prog (sLoad 3 v41_44) (w40.drew) fun v42_45 =>
            xE Tryd.prog (sCall 77 #[a0, (.int .i64 0), v42_45]) (w40.drew) fun v43_46 w47 =>
            xStill Tryd.prog (sLoad 53 v38_42) v39_43 w47 <|
            xE Tryd.prog (sBuildSlice 53 1 #[(0, v43_46)]) w47 fun v44_48 w49 =>
            xStill Tryd.prog (sLoad 53 v38_42) v39_43 w49 <|
            xE Tryd.prog (sB .append #[53, 53] #[v39_43, v44_48]) w49 fun v45_50 w51 =>
            xP Tryd.prog (sFA 93 v5_5 2) fun v46_52 =>
            xE Tryd.prog (sStore 53 v46_52 v45_50) w51 fun _ w53 =>
            xP Tryd.prog (sBin .add 3 (vs38.getD 0 undef) (.int .i64 1)) fun v47_54 =>
            J37 [v47_54] w53) (
              J7 [] w40)) (
          J7 [] w6)))) fun _ _ w57 =>
  xR Tryd.prog (sLoad 93 v5_5) w57 fun v48_58 =>
  xE Tryd.prog (sStore 93 v4_3 v48_58) w57 fun _ w59 =>
  xR Tryd.prog (sLoad 93 v4_3) w59 fun r60 => R (.returned r60) w59
theorem C_gram_cursor_value {a0 : Value} {a1 : Value} {w : World} {R : Ending → World → Prop} (h : S_gram_cursor_value a0 a1 w R) : Calls Tryd.prog 66 #[a0, a1] w R :=
  funcVC_sound (an := A_gram_cursor_value) (args := [a0, a1]) (k := 2) Tryd.func66 (by kernel_rfl) rfl
    (Eq.mp (show S_gram_cursor_value a0 a1 w R = funcVC Tryd.prog Tryd.f66 A_gram_cursor_value [a0, a1] w R by kernel_rfl) h)

/-- stave/staveref1.one -/
def A_staveref1_one : Ann := (.seq .nil (.seq .nil (.seq .nil (.seq (.join [32] .nil .nil) .nil))))
def S_staveref1_one (a0 : Value) (a1 : Value) (a2 : Value) (a3 : Value) (w : World) (R : Ending → World → Prop) : Prop :=
  xP Tryd.prog (sB .len #[57] #[a0]) fun v13_1 =>
  xP Tryd.prog (sBin .sub 3 v13_1 a1) fun v15_2 =>
  xP Tryd.prog (sBin .lss 3 v15_2 (.int .i64 2)) fun v16_3 =>
  xIf v16_3 (
    R (.returned (.tuple #[(.string (ByteArray.mk #[])), a1, (.int .i64 3)])) w) (
    xP Tryd.prog (sBin .add 3 a1 (.int .i64 2)) fun v21_4 =>
  xP Tryd.prog (sSlice 57 a0 (some a1) (some v21_4) none) fun v22_5 =>
  xE Tryd.prog (sCall 46 #[v22_5]) w fun v23_6 w7 =>
  xP Tryd.prog (sConv 97 3 v23_6) fun v24_8 =>
  xJoin (fun J9 =>
    xP Tryd.prog (sBin .lss 3 v24_8 a2) fun v27_10 =>
    xIf v27_10 (
    J9 [(.bool true)] w7) (
    xP Tryd.prog (sBin .gtr 3 v24_8 a3) fun v31_11 =>
    J9 [v31_11] w7)) fun vs12 _ w14 =>
  xIf (vs12.getD 0 undef) (
    R (.returned (.tuple #[(.string (ByteArray.mk #[])), a1, (.int .i64 2)])) w14) (
    xP Tryd.prog (sB .len #[57] #[a0]) fun v36_15 =>
  xP Tryd.prog (sBin .sub 3 v36_15 a1) fun v38_16 =>
  xP Tryd.prog (sBin .sub 3 v38_16 (.int .i64 2)) fun v39_17 =>
  xP Tryd.prog (sBin .gtr 3 v24_8 v39_17) fun v40_18 =>
  xIf v40_18 (
    R (.returned (.tuple #[(.string (ByteArray.mk #[])), a1, (.int .i64 3)])) w14) (
    xP Tryd.prog (sBin .add 3 a1 (.int .i64 2)) fun v44_19 =>
  xP Tryd.prog (sBin .add 3 a1 (.int .i64 2)) fun v46_20 =>
  xP Tryd.prog (sBin .add 3 v46_20 v24_8) fun v48_21 =>
  xP Tryd.prog (sSlice 57 a0 (some v44_19) (some v48_21) none) fun v49_22 =>
  xE Tryd.prog (sConv 57 9 v49_22) w14 fun v50_23 w24 =>
  xP Tryd.prog (sBin .add 3 a1 (.int .i64 2)) fun v52_25 =>
  xP Tryd.prog (sBin .add 3 v52_25 v24_8) fun v54_26 =>
  R (.returned (.tuple #[v50_23, v54_26, (.int .i64 0)])) w24)))
theorem C_staveref1_one {a0 : Value} {a1 : Value} {a2 : Value} {a3 : Value} {w : World} {R : Ending → World → Prop} (h : S_staveref1_one a0 a1 a2 a3 w R) : Calls Tryd.prog 67 #[a0, a1, a2, a3] w R :=
  funcVC_sound (an := A_staveref1_one) (args := [a0, a1, a2, a3]) (k := 4) Tryd.func67 (by kernel_rfl) rfl
    (Eq.mp (show S_staveref1_one a0 a1 a2 a3 w R = funcVC Tryd.prog Tryd.f67 A_staveref1_one [a0, a1, a2, a3] w R by kernel_rfl) h)

/-- stave/gram.fits -/
def A_gram_fits : Ann := (.seq .nil (.seq (.draw (.pre [0, 1, 2, 3, 4, 5, 6, 7, 8, 9, 10, 11, 12] .nil) [0, 1, 3, 0, 8, 24, 0, 64, 192, 448, 7, 1087, 4095]) .nil))
def S_gram_fits (a0 : Value) (a1 : Value) (w : World) (R : Ending → World → Prop) : Prop :=
  xE Tryd.prog (sBox 123 a0) w fun v2_1 w2 =>
  xE Tryd.prog (sBox 93 a1) w2 fun v3_3 w4 =>
  xP Tryd.prog (sFA 93 v3_3 0) fun v9_5 =>
  xR Tryd.prog (sLoad 3 v9_5) (w4.drew) fun v10_6 =>
  xR Tryd.prog (sEq .neq 3 true v10_6 (.int .i64 0)) (w4.drew) fun v11_7 =>
  xP Tryd.prog (sFA 93 v3_3 1) fun v12_8 =>
  xR Tryd.prog (sLoad 9 v12_8) (w4.drew) fun v13_9 =>
  xR Tryd.prog (sEq .neq 9 true v13_9 (.string (ByteArray.mk #[]))) (w4.drew) fun v14_10 =>
  xP Tryd.prog (sFA 93 v3_3 2) fun v15_11 =>
  xR Tryd.prog (sLoad 53 v15_11) (w4.drew) fun v16_12 =>
  xP Tryd.prog (sB .len #[53] #[v16_12]) fun v17_13 =>
  xP Tryd.prog (sBin .gtr 3 v17_13 (.int .i64 0)) fun v18_14 =>
  xP Tryd.prog (sFA 123 v2_1 0) fun v19_15 =>
  xR Tryd.prog (sLoad 3 v19_15) (w4.drew) fun v20_16 =>
  xR Tryd.prog (sEq .eql 3 true v20_16 (.int .i64 1)) (w4.drew) fun v22_17 =>
  xIf v22_17 (
    xR Tryd.prog (sLoad 123 v2_1) (w4.drew) fun v23_18 =>
    xP Tryd.prog (sFA 93 v3_3 0) fun v24_19 =>
    xR Tryd.prog (sLoad 3 v24_19) (w4.drew) fun v25_20 =>
    xE Tryd.prog (sCall 78 #[v23_18, v25_20]) (w4.drew) fun v26_21 w22 =>
    xIf v26_21 (
    xP Tryd.prog (sUn .not v14_10) fun v29_23 =>
    xIf v29_23 (
    xP Tryd.prog (sUn .not v18_14) fun v33_24 =>
    R (.returned v33_24) w22) (
    R (.returned (.bool false)) w22)) (
    R (.returned (.bool false)) w22)) (
    xR Tryd.prog (sEq .eql 3 true v20_16 (.int .i64 2)) (w4.drew) fun v36_25 =>
    xIf v36_25 (
      xR Tryd.prog (sLoad 123 v2_1) (w4.drew) fun v37_26 =>
      xP Tryd.prog (sFA 93 v3_3 1) fun v38_27 =>
      xR Tryd.prog (sLoad 9 v38_27) (w4.drew) fun v39_28 =>
      xP Tryd.prog (sB .len #[9] #[v39_28]) fun v40_29 =>
      xE Tryd.prog (sCall 78 #[v37_26, v40_29]) (w4.drew) fun v41_30 w31 =>
      xIf v41_30 (
      xP Tryd.prog (sUn .not v11_7) fun v44_32 =>
      xIf v44_32 (
      xP Tryd.prog (sUn .not v18_14) fun v48_33 =>
      R (.returned v48_33) w31) (
      R (.returned (.bool false)) w31)) (
      R (.returned (.bool false)) w31)) (
      xP Tryd.prog (sFA 93 v3_3 2) fun v50_34 =>
  xR Tryd.prog (sLoad 53 v50_34) (w4.drew) fun v51_35 =>
  xP Tryd.prog (sFunc (.func 80) #[] #[v2_1]) fun v52_36 =>
  xE Tryd.prog (sCall 79 #[v51_35, v52_36]) (w4.drew) fun v53_37 w38 =>
  xR Tryd.prog (sLoad 123 v2_1) w38 fun v54_39 =>
  xP Tryd.prog (sFA 93 v3_3 2) fun v55_40 =>
  xR Tryd.prog (sLoad 53 v55_40) w38 fun v56_41 =>
  xP Tryd.prog (sB .len #[53] #[v56_41]) fun v57_42 =>
  xE Tryd.prog (sCall 78 #[v54_39, v57_42]) w38 fun v58_43 w44 =>
  xIf v58_43 (
  xP Tryd.prog (sUn .not v53_37) fun v61_45 =>
  xIf v61_45 (
  xP Tryd.prog (sUn .not v11_7) fun v65_46 =>
  xIf v65_46 (
  xP Tryd.prog (sUn .not v14_10) fun v69_47 =>
  R (.returned v69_47) w44) (
  R (.returned (.bool false)) w44)) (
  R (.returned (.bool false)) w44)) (
  R (.returned (.bool false)) w44)))
theorem C_gram_fits {a0 : Value} {a1 : Value} {w : World} {R : Ending → World → Prop} (h : S_gram_fits a0 a1 w R) : Calls Tryd.prog 70 #[a0, a1] w R :=
  funcVC_sound (an := A_gram_fits) (args := [a0, a1]) (k := 2) Tryd.func70 (by kernel_rfl) rfl
    (Eq.mp (show S_gram_fits a0 a1 w R = funcVC Tryd.prog Tryd.f70 A_gram_fits [a0, a1] w R by kernel_rfl) h)

/-- stave/gram.written -/
def A_gram_written : Ann := (.seq .nil (.seq (.seq .nil (.one (.seq .nil (.seq .nil (.seq .nil (.seq (.seq (.draw (.pre [0, 1, 2, 4, 5, 3, 6, 7] .nil) [0, 1, 3, 7, 0, 16, 63, 127]) .nil) .nil)))))) (.seq .nil (.seq (.seq .nil (.one (.loop [5, 33] .nil))) .nil))))
def S_gram_written (a0 : Value) (a1 : Value) (w : World) (R : Ending → World → Prop) : Prop :=
  xE Tryd.prog (sBox 123 a0) w fun v2_1 w2 =>
  xE Tryd.prog (sBox 93 a1) w2 fun v3_3 w4 =>
  xP Tryd.prog (sFA 123 v2_1 0) fun v8_5 =>
  xR Tryd.prog (sLoad 3 v8_5) w4 fun v9_6 =>
  xR Tryd.prog (sEq .eql 3 true v9_6 (.int .i64 1)) w4 fun v11_7 =>
  xIf v11_7 (
    xP Tryd.prog (sFA 93 v3_3 0) fun v12_8 =>
    xR Tryd.prog (sLoad 3 v12_8) w4 fun v13_9 =>
    xP Tryd.prog (sFA 123 v2_1 1) fun v14_10 =>
    xR Tryd.prog (sLoad 3 v14_10) w4 fun v15_11 =>
    xE Tryd.prog (sCall 81 #[v13_9, v15_11]) w4 fun v16_12 w13 =>
    R (.returned v16_12) w13) (
    xR Tryd.prog (sEq .eql 3 true v9_6 (.int .i64 2)) w4 fun v18_14 =>
    xIf v18_14 (
      xP Tryd.prog (sFA 93 v3_3 1) fun v19_15 =>
      xR Tryd.prog (sLoad 9 v19_15) (w4.drew) fun v20_16 =>
      xP Tryd.prog (sB .len #[9] #[v20_16]) fun v21_17 =>
      xP Tryd.prog (sFA 93 v3_3 1) fun v23_18 =>
      xR Tryd.prog (sLoad 9 v23_18) (w4.drew) fun v24_19 =>
      xE Tryd.prog (sCall 81 #[v21_17, (.int .i64 2)]) (w4.drew) fun v22_20 w21 =>
      xStill Tryd.prog (sLoad 9 v23_18) v24_19 w21 <|
      xE Tryd.prog (sB .append #[57, 9] #[v22_20, v24_19]) w21 fun v25_22 w23 =>
      R (.returned v25_22) w23) (
      xP Tryd.prog (sFA 93 v3_3 2) fun v26_24 =>
  xR Tryd.prog (sLoad 53 v26_24) w4 fun v27_25 =>
  xP Tryd.prog (sB .len #[53] #[v27_25]) fun v28_26 =>
  xE Tryd.prog (sCall 81 #[v28_26, (.int .i64 1)]) w4 fun v29_27 w28 =>
  xP Tryd.prog (sFA 93 v3_3 2) fun v30_29 =>
  xR Tryd.prog (sLoad 53 v30_29) w28 fun v31_30 =>
  xP Tryd.prog (sB .len #[53] #[v31_30]) fun v32_31 =>
  xLoop [v29_27, (.int .i64 0)] w28 fun J32 vs33 _ w35 =>
    xP Tryd.prog (sBin .lss 3 (vs33.getD 1 undef) v32_31) fun v34_36 =>
    xIf v34_36 (
      xP Tryd.prog (sIA 53 v31_30 (vs33.getD 1 undef)) fun v35_37 =>
    xR Tryd.prog (sLoad 9 v35_37) w35 fun v36_38 =>
    xP Tryd.prog (sB .len #[9] #[v36_38]) fun v39_39 =>
    xE Tryd.prog (sCall 81 #[v39_39, (.int .i64 2)]) w35 fun v40_40 w41 =>
    xE Tryd.prog (sB .append #[57, 57] #[(vs33.getD 0 undef), v40_40]) w41 fun v41_42 w43 =>
    xE Tryd.prog (sB .append #[57, 9] #[v41_42, v36_38]) w43 fun v43_44 w45 =>
    xP Tryd.prog (sBin .add 3 (vs33.getD 1 undef) (.int .i64 1)) fun v44_46 =>
    J32 [v43_44, v44_46] w45) (
      R (.returned (vs33.getD 0 undef)) w35)))
theorem C_gram_written {a0 : Value} {a1 : Value} {w : World} {R : Ending → World → Prop} (h : S_gram_written a0 a1 w R) : Calls Tryd.prog 71 #[a0, a1] w R :=
  funcVC_sound (an := A_gram_written) (args := [a0, a1]) (k := 2) Tryd.func71 (by kernel_rfl) rfl
    (Eq.mp (show S_gram_written a0 a1 w R = funcVC Tryd.prog Tryd.f71 A_gram_written [a0, a1] w R by kernel_rfl) h)

/-- stave/staveref1.RightField -/
def A_staveref1_RightField : Ann := (.seq .nil (.seq (.join [12] .nil .nil) (.seq (.seq .nil (.one (.seq .nil (.seq (.seq (.draw (.pre [0, 1, 2, 3, 4, 5, 6, 7, 8, 9, 10, 11, 12, 13, 14, 15, 16, 17, 18, 19, 20, 21, 22, 23, 24, 25, 26, 27, 28, 29, 30, 31, 32] .nil) [0, 1, 3, 7, 15, 31, 63, 127, 255, 511, 1023, 2047, 4095, 8191, 16383, 32767, 65535, 131071, 262143, 524287, 1048575, 2097151, 4194303, 8388607, 4194303, 20971519, 54525951, 121634815, 268435455, 536870911, 1073741823, 2147483647, 4294967295]) .nil) .nil)))) .nil)))
def S_staveref1_RightField (a0 : Value) (w : World) (R : Ending → World → Prop) : Prop :=
  xE Tryd.prog (sBox 123 a0) w fun v1_1 w2 =>
  xJoin (fun J3 =>
    xP Tryd.prog (sFA 123 v1_1 2) fun v3_4 =>
    xR Tryd.prog (sLoad 3 v3_4) w2 fun v4_5 =>
    xP Tryd.prog (sBin .lss 3 v4_5 (.int .i64 0)) fun v5_6 =>
    xIf v5_6 (
    J3 [(.bool true)] w2) (
    xP Tryd.prog (sFA 123 v1_1 2) fun v7_7 =>
    xR Tryd.prog (sLoad 3 v7_7) w2 fun v8_8 =>
    xP Tryd.prog (sFA 123 v1_1 3) fun v9_9 =>
    xR Tryd.prog (sLoad 3 v9_9) w2 fun v10_10 =>
    xP Tryd.prog (sBin .gtr 3 v8_8 v10_10) fun v11_11 =>
    J3 [v11_11] w2)) fun vs12 _ w14 =>
  xIf (vs12.getD 0 undef) (
    R (.returned (.bool false)) w14) (
    xP Tryd.prog (sFA 123 v1_1 0) fun v13_15 =>
  xR Tryd.prog (sLoad 3 v13_15) w14 fun v14_16 =>
  xR Tryd.prog (sEq .eql 3 true v14_16 (.int .i64 1)) w14 fun v16_17 =>
  xIf v16_17 (
    xP Tryd.prog (sFA 123 v1_1 4) fun v17_18 =>
    xR Tryd.prog (sLoad 3 v17_18) (w14.drew) fun v18_19 =>
    xR Tryd.prog (sEq .eql 3 true v18_19 (.int .i64 0)) (w14.drew) fun v19_20 =>
    xIf v19_20 (
    xP Tryd.prog (sFA 123 v1_1 1) fun v21_21 =>
    xR Tryd.prog (sLoad 3 v21_21) (w14.drew) fun v22_22 =>
    xR Tryd.prog (sEq .eql 3 true v22_22 (.int .i64 8)) (w14.drew) fun v23_23 =>
    xIf v23_23 (
    R (.returned (.bool true)) (w14.drew)) (
    xP Tryd.prog (sFA 123 v1_1 1) fun v25_24 =>
    xR Tryd.prog (sLoad 3 v25_24) (w14.drew) fun v26_25 =>
    xR Tryd.prog (sEq .eql 3 true v26_25 (.int .i64 1)) (w14.drew) fun v27_26 =>
    xIf v27_26 (
    xP Tryd.prog (sFA 123 v1_1 3) fun v39_27 =>
    xR Tryd.prog (sLoad 3 v39_27) (w14.drew) fun v40_28 =>
    xP Tryd.prog (sFA 123 v1_1 1) fun v41_29 =>
    xR Tryd.prog (sLoad 3 v41_29) (w14.drew) fun v42_30 =>
    xP Tryd.prog (sBin .mul 3 (.int .i64 8) v42_30) fun v43_31 =>
    xP Tryd.prog (sBin .shl 3 (.int .i64 1) v43_31) fun v44_32 =>
    xP Tryd.prog (sBin .lss 3 v40_28 v44_32) fun v45_33 =>
    R (.returned v45_33) (w14.drew)) (
    xP Tryd.prog (sFA 123 v1_1 1) fun v29_34 =>
    xR Tryd.prog (sLoad 3 v29_34) (w14.drew) fun v30_35 =>
    xR Tryd.prog (sEq .eql 3 true v30_35 (.int .i64 2)) (w14.drew) fun v31_36 =>
    xIf v31_36 (
    xP Tryd.prog (sFA 123 v1_1 3) fun v39_37 =>
    xR Tryd.prog (sLoad 3 v39_37) (w14.drew) fun v40_38 =>
    xP Tryd.prog (sFA 123 v1_1 1) fun v41_39 =>
    xR Tryd.prog (sLoad 3 v41_39) (w14.drew) fun v42_40 =>
    xP Tryd.prog (sBin .mul 3 (.int .i64 8) v42_40) fun v43_41 =>
    xP Tryd.prog (sBin .shl 3 (.int .i64 1) v43_41) fun v44_42 =>
    xP Tryd.prog (sBin .lss 3 v40_38 v44_42) fun v45_43 =>
    R (.returned v45_43) (w14.drew)) (
    xP Tryd.prog (sFA 123 v1_1 1) fun v34_44 =>
    xR Tryd.prog (sLoad 3 v34_44) (w14.drew) fun v35_45 =>
    xR Tryd.prog (sEq .eql 3 true v35_45 (.int .i64 4)) (w14.drew) fun v36_46 =>
    xIf v36_46 (
    xP Tryd.prog (sFA 123 v1_1 3) fun v39_47 =>
    xR Tryd.prog (sLoad 3 v39_47) (w14.drew) fun v40_48 =>
    xP Tryd.prog (sFA 123 v1_1 1) fun v41_49 =>
    xR Tryd.prog (sLoad 3 v41_49) (w14.drew) fun v42_50 =>
    xP Tryd.prog (sBin .mul 3 (.int .i64 8) v42_50) fun v43_51 =>
    xP Tryd.prog (sBin .shl 3 (.int .i64 1) v43_51) fun v44_52 =>
    xP Tryd.prog (sBin .lss 3 v40_48 v44_52) fun v45_53 =>
    R (.returned v45_53) (w14.drew)) (
    R (.returned (.bool false)) (w14.drew)))))) (
    R (.returned (.bool false)) (w14.drew))) (
    xR Tryd.prog (sEq .eql 3 true v14_16 (.int .i64 2)) w14 fun v50_54 =>
    xIf v50_54 (
      xP Tryd.prog (sFA 123 v1_1 1) fun v51_55 =>
      xR Tryd.prog (sLoad 3 v51_55) w14 fun v52_56 =>
      xR Tryd.prog (sEq .eql 3 true v52_56 (.int .i64 0)) w14 fun v53_57 =>
      xIf v53_57 (
      xP Tryd.prog (sFA 123 v1_1 4) fun v55_58 =>
      xR Tryd.prog (sLoad 3 v55_58) w14 fun v56_59 =>
      xR Tryd.prog (sEq .eql 3 true v56_59 (.int .i64 0)) w14 fun v57_60 =>
      xIf v57_60 (
      xP Tryd.prog (sFA 123 v1_1 3) fun v60_61 =>
      xR Tryd.prog (sLoad 3 v60_61) w14 fun v61_62 =>
      xP Tryd.prog (sBin .leq 3 v61_62 (.int .i64 65535)) fun v62_63 =>
      R (.returned v62_63) w14) (
      R (.returned (.bool false)) w14)) (
      R (.returned (.bool false)) w14)) (
      xR Tryd.prog (sEq .eql 3 true v14_16 (.int .i64 3)) w14 fun v65_64 =>
      xIf v65_64 (
        xP Tryd.prog (sFA 123 v1_1 1) fun v66_65 =>
        xR Tryd.prog (sLoad 3 v66_65) w14 fun v67_66 =>
        xR Tryd.prog (sEq .eql 3 true v67_66 (.int .i64 0)) w14 fun v68_67 =>
        xIf v68_67 (
        xP Tryd.prog (sFA 123 v1_1 3) fun v70_68 =>
        xR Tryd.prog (sLoad 3 v70_68) w14 fun v71_69 =>
        xP Tryd.prog (sBin .leq 3 v71_69 (.int .i64 255)) fun v72_70 =>
        xIf v72_70 (
        xP Tryd.prog (sFA 123 v1_1 4) fun v75_71 =>
        xR Tryd.prog (sLoad 3 v75_71) w14 fun v76_72 =>
        xP Tryd.prog (sBin .geq 3 v76_72 (.int .i64 0)) fun v77_73 =>
        xIf v77_73 (
        xP Tryd.prog (sFA 123 v1_1 4) fun v80_74 =>
        xR Tryd.prog (sLoad 3 v80_74) w14 fun v81_75 =>
        xP Tryd.prog (sBin .leq 3 v81_75 (.int .i64 65535)) fun v82_76 =>
        R (.returned v82_76) w14) (
        R (.returned (.bool false)) w14)) (
        R (.returned (.bool false)) w14)) (
        R (.returned (.bool false)) w14)) (
        R (.returned (.bool false)) w14))))
theorem C_staveref1_RightField {a0 : Value} {w : World} {R : Ending → World → Prop} (h : S_staveref1_RightField a0 w R) : Calls Tryd.prog 72 #[a0] w R :=
  funcVC_sound (an := A_staveref1_RightField) (args := [a0]) (k := 1) Tryd.func72 (by kernel_rfl) rfl
    (Eq.mp (show S_staveref1_RightField a0 w R = funcVC Tryd.prog Tryd.f72 A_staveref1_RightField [a0] w R by kernel_rfl) h)

/-- slices.IndexFunc[[]stave/api.Field,stave/api.Field] -/
def A_slices_IndexFunc_api_Field : Ann := (.seq .nil (.seq (.seq .nil (.one (.loop [8] .nil))) .nil))
def S_slices_IndexFunc_api_Field (a0 : Value) (a1 : Value) (w : World) (R : Ending → World → Prop) : Prop :=
  xP Tryd.prog (sB .len #[86] #[a0]) fun v7_1 =>
  xLoop [(.int .i64 0)] w fun J2 vs3 _ w5 =>
    xP Tryd.prog (sBin .lss 3 (vs3.getD 0 undef) v7_1) fun v9_6 =>
    xIf v9_6 (
      xP Tryd.prog (sIA 86 a0 (vs3.getD 0 undef)) fun v14_7 =>
    xR Tryd.prog (sLoad 123 v14_7) w5 fun v15_8 =>
    xE Tryd.prog (sCallV a1 #[v15_8]) w5 fun v16_9 w10 =>
    xIf v16_9 (
      R (.returned (vs3.getD 0 undef)) w10) (
      xP Tryd.prog (sBin .add 3 (vs3.getD 0 undef) (.int .i64 1)) fun v18_11 =>
    J2 [v18_11] w10)) (
      R (.returned (.int .i64 (-1))) w5)
theorem C_slices_IndexFunc_api_Field {a0 : Value} {a1 : Value} {w : World} {R : Ending → World → Prop} (h : S_slices_IndexFunc_api_Field a0 a1 w R) : Calls Tryd.prog 73 #[a0, a1] w R :=
  funcVC_sound (an := A_slices_IndexFunc_api_Field) (args := [a0, a1]) (k := 2) Tryd.func73 (by kernel_rfl) rfl
    (Eq.mp (show S_slices_IndexFunc_api_Field a0 a1 w R = funcVC Tryd.prog Tryd.f73 A_slices_IndexFunc_api_Field [a0, a1] w R by kernel_rfl) h)

/-- stave/gram.wrong$1 -/
def A_gram_wrongx1 : Ann := .nil
def S_gram_wrongx1 (a0 : Value) (w : World) (R : Ending → World → Prop) : Prop :=
  xE Tryd.prog (sBox 123 a0) w fun v1_1 w2 =>
  xR Tryd.prog (sLoad 123 v1_1) w2 fun v3_3 =>
  xE Tryd.prog (sCall 75 #[v3_3]) w2 fun v4_4 w5 =>
  xP Tryd.prog (sUn .not v4_4) fun v5_6 =>
  R (.returned v5_6) w5
theorem C_gram_wrongx1 {a0 : Value} {w : World} {R : Ending → World → Prop} (h : S_gram_wrongx1 a0 w R) : Calls Tryd.prog 74 #[a0] w R :=
  funcVC_sound (an := A_gram_wrongx1) (args := [a0]) (k := 1) Tryd.func74 (by kernel_rfl) rfl
    (Eq.mp (show S_gram_wrongx1 a0 w R = funcVC Tryd.prog Tryd.f74 A_gram_wrongx1 [a0] w R by kernel_rfl) h)

/-- stave/gram.Right -/
def A_gram_Right : Ann := (.seq .nil (.seq (.join [13] .nil .nil) (.seq (.seq .nil (.one (.join [] (.one (.seq (.one (.seq .nil (.seq (.join [3] .nil .nil) .nil))) (.seq (.join [59] .nil .nil) .nil))) .nil))) .nil)))
def S_gram_Right (a0 : Value) (w : World) (R : Ending → World → Prop) : Prop :=
  xE Tryd.prog (sBox 123 a0) w fun v1_1 w2 =>
  xJoin (fun J3 =>
    xP Tryd.prog (sFA 123 v1_1 2) fun v4_4 =>
    xR Tryd.prog (sLoad 3 v4_4) w2 fun v5_5 =>
    xP Tryd.prog (sBin .lss 3 v5_5 (.int .i64 0)) fun v6_6 =>
    xIf v6_6 (
    J3 [(.bool true)] w2) (
    xP Tryd.prog (sFA 123 v1_1 2) fun v8_7 =>
    xR Tryd.prog (sLoad 3 v8_7) w2 fun v9_8 =>
    xP Tryd.prog (sFA 123 v1_1 3) fun v10_9 =>
    xR Tryd.prog (sLoad 3 v10_9) w2 fun v11_10 =>
    xP Tryd.prog (sBin .gtr 3 v9_8 v11_10) fun v12_11 =>
    J3 [v12_11] w2)) fun vs12 _ w14 =>
  xIf (vs12.getD 0 undef) (
    R (.returned (.bool false)) w14) (
    xP Tryd.prog (sFA 123 v1_1 0) fun v14_15 =>
  xR Tryd.prog (sLoad 3 v14_15) w14 fun v15_16 =>
  xJoin (fun J17 =>
    xR Tryd.prog (sEq .eql 3 true v15_16 (.int .i64 1)) w14 fun v17_18 =>
    xIf v17_18 (
      xJoin (fun J19 =>
      xE Tryd.prog (sBuildSlice 49 3 #[(0, (.int .i64 1)), (1, (.int .i64 2)), (2, (.int .i64 4))]) w14 fun v22_20 w21 =>
      xP Tryd.prog (sFA 123 v1_1 1) fun v23_22 =>
      xR Tryd.prog (sLoad 3 v23_22) w21 fun v24_23 =>
      xE Tryd.prog (sCall 82 #[v22_20, v24_23]) w21 fun v25_24 w25 =>
      xIf v25_24 (
      xP Tryd.prog (sFA 123 v1_1 3) fun v27_26 =>
      xR Tryd.prog (sLoad 3 v27_26) w25 fun v28_27 =>
      xP Tryd.prog (sFA 123 v1_1 1) fun v29_28 =>
      xR Tryd.prog (sLoad 3 v29_28) w25 fun v30_29 =>
      xP Tryd.prog (sBin .mul 3 (.int .i64 8) v30_29) fun v31_30 =>
      xP Tryd.prog (sConv 3 133 v31_30) fun v32_31 =>
      xP Tryd.prog (sBin .shr 3 v28_27 v32_31) fun v33_32 =>
      xR Tryd.prog (sEq .eql 3 true v33_32 (.int .i64 0)) w25 fun v34_33 =>
      J19 [v34_33] w25) (
      J19 [(.bool false)] w25)) fun vs34 _ w36 =>
    xP Tryd.prog (sFA 123 v1_1 4) fun v36_37 =>
    xR Tryd.prog (sLoad 3 v36_37) w36 fun v37_38 =>
    xR Tryd.prog (sEq .eql 3 true v37_38 (.int .i64 0)) w36 fun v38_39 =>
    xIf v38_39 (
    xIf (vs34.getD 0 undef) (
    R (.returned (.bool true)) w36) (
    xP Tryd.prog (sFA 123 v1_1 1) fun v42_40 =>
    xR Tryd.prog (sLoad 3 v42_40) w36 fun v43_41 =>
    xR Tryd.prog (sEq .eql 3 true v43_41 (.int .i64 8)) w36 fun v44_42 =>
    R (.returned v44_42) w36)) (
    R (.returned (.bool false)) w36)) (
      xR Tryd.prog (sEq .eql 3 true v15_16 (.int .i64 3)) w14 fun v19_43 =>
    xIf v19_43 (
      xJoin (fun J44 =>
      xP Tryd.prog (sFA 123 v1_1 3) fun v47_45 =>
      xR Tryd.prog (sLoad 3 v47_45) w14 fun v48_46 =>
      xP Tryd.prog (sBin .gtr 3 v48_46 (.int .i64 255)) fun v49_47 =>
      xIf v49_47 (
      J44 [(.bool true)] w14) (
      xP Tryd.prog (sFA 123 v1_1 4) fun v51_48 =>
      xR Tryd.prog (sLoad 3 v51_48) w14 fun v52_49 =>
      xP Tryd.prog (sBin .lss 3 v52_49 (.int .i64 0)) fun v53_50 =>
      xIf v53_50 (
      J44 [(.bool true)] w14) (
      xP Tryd.prog (sFA 123 v1_1 4) fun v56_51 =>
      xR Tryd.prog (sLoad 3 v56_51) w14 fun v57_52 =>
      xP Tryd.prog (sBin .gtr 3 v57_52 (.int .i64 65535)) fun v58_53 =>
      J44 [v58_53] w14))) fun vs54 _ w56 =>
    xIf (vs54.getD 0 undef) (
      R (.returned (.bool false)) w56) (
      xP Tryd.prog (sFA 123 v1_1 4) fun v60_57 =>
    xE Tryd.prog (sStore 3 v60_57 (.int .i64 0)) w56 fun _ w58 =>
    J17 [] w58)) (
      xR Tryd.prog (sEq .eql 3 true v15_16 (.int .i64 2)) w14 fun v21_59 =>
    xIf v21_59 (
      J17 [] w14) (
      R (.returned (.bool false)) w14)))) fun _ _ w62 =>
  xP Tryd.prog (sFA 123 v1_1 1) fun v61_63 =>
  xR Tryd.prog (sLoad 3 v61_63) w62 fun v62_64 =>
  xR Tryd.prog (sEq .eql 3 true v62_64 (.int .i64 0)) w62 fun v63_65 =>
  xIf v63_65 (
  xP Tryd.prog (sFA 123 v1_1 4) fun v65_66 =>
  xR Tryd.prog (sLoad 3 v65_66) w62 fun v66_67 =>
  xR Tryd.prog (sEq .eql 3 true v66_67 (.int .i64 0)) w62 fun v67_68 =>
  xIf v67_68 (
  xP Tryd.prog (sFA 123 v1_1 3) fun v70_69 =>
  xR Tryd.prog (sLoad 3 v70_69) w62 fun v71_70 =>
  xP Tryd.prog (sBin .leq 3 v71_70 (.int .i64 65535)) fun v72_71 =>
  R (.returned v72_71) w62) (
  R (.returned (.bool false)) w62)) (
  R (.returned (.bool false)) w62))
theorem C_gram_Right {a0 : Value} {w : World} {R : Ending → World → Prop} (h : S_gram_Right a0 w R) : Calls Tryd.prog 75 #[a0] w R :=
  funcVC_sound (an := A_gram_Right) (args := [a0]) (k := 1) Tryd.func75 (by kernel_rfl) rfl
    (Eq.mp (show S_gram_Right a0 w R = funcVC Tryd.prog Tryd.f75 A_gram_Right [a0] w R by kernel_rfl) h)

/-- (*stave/gram.cursor).num -/
def A_gram_cursor_num : Ann := (.seq .nil (.seq .nil (.seq (.seq (.draw (.pre [0, 1, 2, 3, 4, 5, 6, 7, 8, 9, 10, 11] .nil) [0, 1, 3, 7, 15, 0, 32, 96, 224, 511, 0, 2047]) .nil) (.seq .nil (.seq (.seq (.draw (.pre [0, 1, 2, 3, 4, 5, 6, 7, 8, 9, 10, 11, 12, 13, 14, 15, 16] .nil) [0, 1, 3, 7, 0, 16, 48, 112, 0, 256, 768, 1792, 0, 7936, 16383, 32767, 0]) (.one (.loop [9, 48] .nil))) (.seq (.join [71] .nil .nil) .nil))))))
def S_gram_cursor_num (a0 : Value) (a1 : Value) (a2 : Value) (a3 : Value) (w : World) (R : Ending → World → Prop) : Prop :=
  xP Tryd.prog (sNil a0) fun v13_1 =>
  xP Tryd.prog (sFA 131 v13_1 2) fun v14_2 =>
  xR Tryd.prog (sLoad 31 v14_2) w fun v15_3 =>
  xR Tryd.prog (sEq .neq 31 true v15_3 (.int .i64 0)) w fun v16_4 =>
  xIf v16_4 (
    R (.returned (.int .i64 0)) w) (
    xP Tryd.prog (sNil a0) fun v18_5 =>
  xP Tryd.prog (sFA 131 v18_5 0) fun v19_6 =>
  xR Tryd.prog (sLoad 57 v19_6) (w.drew) fun v20_7 =>
  xP Tryd.prog (sB .len #[57] #[v20_7]) fun v21_8 =>
  xP Tryd.prog (sNil a0) fun v23_9 =>
  xP Tryd.prog (sFA 131 v23_9 1) fun v24_10 =>
  xR Tryd.prog (sLoad 3 v24_10) (w.drew) fun v25_11 =>
  xP Tryd.prog (sBin .sub 3 v21_8 v25_11) fun v26_12 =>
  xP Tryd.prog (sBin .lss 3 v26_12 a1) fun v28_13 =>
  xIf v28_13 (
    xP Tryd.prog (sNil a0) fun v30_14 =>
    xP Tryd.prog (sFA 131 v30_14 2) fun v31_15 =>
    xE Tryd.prog (sStore 31 v31_15 (.int .i64 3)) (w.drew) fun _ w16 =>
    R (.returned (.int .i64 0)) w16) (
    xP Tryd.prog (sNil a0) fun v33_17 =>
  xP Tryd.prog (sFA 131 v33_17 0) fun v34_18 =>
  xR Tryd.prog (sLoad 57 v34_18) (w.drew.drew) fun v35_19 =>
  xP Tryd.prog (sNil a0) fun v37_20 =>
  xP Tryd.prog (sFA 131 v37_20 1) fun v38_21 =>
  xR Tryd.prog (sLoad 3 v38_21) (w.drew.drew) fun v39_22 =>
  xP Tryd.prog (sNil a0) fun v41_23 =>
  xP Tryd.prog (sFA 131 v41_23 1) fun v42_24 =>
  xR Tryd.prog (sLoad 3 v42_24) (w.drew.drew) fun v43_25 =>
  xP Tryd.prog (sBin .add 3 v43_25 a1) fun v45_26 =>
  xP Tryd.prog (sSlice 57 v35_19 (some v39_22) (some v45_26) none) fun v46_27 =>
  xP Tryd.prog (sB .len #[57] #[v46_27]) fun v47_28 =>
  xLoop [(.int .u64 0), (.int .i64 0)] (w.drew.drew) fun J29 vs30 _ w32 =>
    xP Tryd.prog (sBin .lss 3 (vs30.getD 1 undef) v47_28) fun v49_33 =>
    xIf v49_33 (
      xP Tryd.prog (sIA 57 v46_27 (vs30.getD 1 undef)) fun v51_34 =>
    xR Tryd.prog (sLoad 5 v51_34) w32 fun v52_35 =>
    xP Tryd.prog (sConv 5 97 v52_35) fun v55_36 =>
    xP Tryd.prog (sBin .mul 3 (.int .i64 8) (vs30.getD 1 undef)) fun v57_37 =>
    xP Tryd.prog (sConv 3 133 v57_37) fun v58_38 =>
    xP Tryd.prog (sBin .shl 97 v55_36 v58_38) fun v59_39 =>
    xP Tryd.prog (sBin .or 97 (vs30.getD 0 undef) v59_39) fun v60_40 =>
    xP Tryd.prog (sBin .add 3 (vs30.getD 1 undef) (.int .i64 1)) fun v61_41 =>
    J29 [v60_40, v61_41] w32) (
      xJoin (fun J42 =>
    xP Tryd.prog (sConv 3 97 a2) fun v64_43 =>
    xP Tryd.prog (sBin .lss 97 (vs30.getD 0 undef) v64_43) fun v65_44 =>
    xIf v65_44 (
    J42 [(.bool true)] w32) (
    xP Tryd.prog (sConv 3 97 a3) fun v69_45 =>
    xP Tryd.prog (sBin .gtr 97 (vs30.getD 0 undef) v69_45) fun v70_46 =>
    J42 [v70_46] w32)) fun vs47 _ w49 =>
  xIf (vs47.getD 0 undef) (
    xP Tryd.prog (sNil a0) fun v73_50 =>
    xP Tryd.prog (sFA 131 v73_50 2) fun v74_51 =>
    xE Tryd.prog (sStore 31 v74_51 (.int .i64 2)) w49 fun _ w52 =>
    R (.returned (.int .i64 0)) w52) (
    xP Tryd.prog (sNil a0) fun v76_53 =>
  xP Tryd.prog (sFA 131 v76_53 1) fun v77_54 =>
  xR Tryd.prog (sLoad 3 v77_54) w49 fun v78_55 =>
  xP Tryd.prog (sBin .add 3 v78_55 a1) fun v80_56 =>
  xP Tryd.prog (sNil a0) fun v81_57 =>
  xP Tryd.prog (sFA 131 v81_57 1) fun v82_58 =>
  xE Tryd.prog (sStore 3 v82_58 v80_56) w49 fun _ w59 =>
  xP Tryd.prog (sConv 97 3 (vs30.getD 0 undef)) fun v84_60 =>
  R (.returned v84_60) w59))))
theorem C_gram_cursor_num {a0 : Value} {a1 : Value} {a2 : Value} {a3 : Value} {w : World} {R : Ending → World → Prop} (h : S_gram_cursor_num a0 a1 a2 a3 w R) : Calls Tryd.prog 76 #[a0, a1, a2, a3] w R :=
  funcVC_sound (an := A_gram_cursor_num) (args := [a0, a1, a2, a3]) (k := 4) Tryd.func76 (by kernel_rfl) rfl
    (Eq.mp (show S_gram_cursor_num a0 a1 a2 a3 w R = funcVC Tryd.prog Tryd.f76 A_gram_cursor_num [a0, a1, a2, a3] w R by kernel_rfl) h)

/-- (*stave/gram.cursor).text -/
def A_gram_cursor_text : Ann := (.seq .nil (.seq .nil (.join [] (.join [30] (.draw (.pre [0, 1, 2, 3, 4, 5, 6, 7, 8, 9, 10, 11, 12, 13, 14, 15, 16, 17, 18] .nil) [0, 1, 3, 7, 15, 31, 63, 127, 255, 511, 1023, 63, 2111, 6207, 14399, 32767, 63, 131071, 262143]) .nil) (.seq .nil (.seq .nil (.seq (.draw (.pre [0, 1, 2, 3, 4, 5, 6, 7, 8, 9, 10, 11, 12, 13, 14, 15, 16] .nil) [0, 1, 3, 7, 0, 16, 48, 112, 0, 496, 0, 1024, 3072, 7168, 16383, 32767, 65535]) .nil))))))
def S_gram_cursor_text (a0 : Value) (a1 : Value) (a2 : Value) (w : World) (R : Ending → World → Prop) : Prop :=
  xE Tryd.prog (sCall 76 #[a0, (.int .i64 2), a1, a2]) w fun v11_1 w2 =>
  xJoin (fun J3 =>
    xJoin (fun J4 =>
      xP Tryd.prog (sNil a0) fun v13_5 =>
      xP Tryd.prog (sFA 131 v13_5 2) fun v14_6 =>
      xR Tryd.prog (sLoad 31 v14_6) (w2.drew) fun v15_7 =>
      xR Tryd.prog (sEq .eql 31 true v15_7 (.int .i64 0)) (w2.drew) fun v16_8 =>
      xIf v16_8 (
      xP Tryd.prog (sNil a0) fun v19_9 =>
      xP Tryd.prog (sFA 131 v19_9 0) fun v20_10 =>
      xR Tryd.prog (sLoad 57 v20_10) (w2.drew) fun v21_11 =>
      xP Tryd.prog (sB .len #[57] #[v21_11]) fun v22_12 =>
      xP Tryd.prog (sNil a0) fun v24_13 =>
      xP Tryd.prog (sFA 131 v24_13 1) fun v25_14 =>
      xR Tryd.prog (sLoad 3 v25_14) (w2.drew) fun v26_15 =>
      xP Tryd.prog (sBin .sub 3 v22_12 v26_15) fun v27_16 =>
      xP Tryd.prog (sBin .lss 3 v27_16 v11_1) fun v29_17 =>
      J4 [v29_17] (w2.drew)) (
      J4 [(.bool false)] (w2.drew))) fun vs18 _ w20 =>
    xIf (vs18.getD 0 undef) (
      xP Tryd.prog (sNil a0) fun v32_21 =>
      xP Tryd.prog (sFA 131 v32_21 2) fun v33_22 =>
      xE Tryd.prog (sStore 31 v33_22 (.int .i64 3)) w20 fun _ w23 =>
      J3 [] w23) (
      J3 [] w20)) fun _ _ w26 =>
  xP Tryd.prog (sNil a0) fun v35_27 =>
  xP Tryd.prog (sFA 131 v35_27 2) fun v36_28 =>
  xR Tryd.prog (sLoad 31 v36_28) w26 fun v37_29 =>
  xR Tryd.prog (sEq .neq 31 true v37_29 (.int .i64 0)) w26 fun v38_30 =>
  xIf v38_30 (
    R (.returned (.string (ByteArray.mk #[]))) w26) (
    xP Tryd.prog (sNil a0) fun v40_31 =>
  xP Tryd.prog (sFA 131 v40_31 1) fun v41_32 =>
  xR Tryd.prog (sLoad 3 v41_32) w26 fun v42_33 =>
  xP Tryd.prog (sBin .add 3 v42_33 v11_1) fun v44_34 =>
  xP Tryd.prog (sNil a0) fun v45_35 =>
  xP Tryd.prog (sFA 131 v45_35 1) fun v46_36 =>
  xE Tryd.prog (sStore 3 v46_36 v44_34) w26 fun _ w37 =>
  xP Tryd.prog (sNil a0) fun v48_38 =>
  xP Tryd.prog (sFA 131 v48_38 0) fun v49_39 =>
  xR Tryd.prog (sLoad 57 v49_39) (w37.drew) fun v50_40 =>
  xP Tryd.prog (sNil a0) fun v52_41 =>
  xP Tryd.prog (sFA 131 v52_41 1) fun v53_42 =>
  xR Tryd.prog (sLoad 3 v53_42) (w37.drew) fun v54_43 =>
  xP Tryd.prog (sBin .sub 3 v54_43 v11_1) fun v56_44 =>
  xP Tryd.prog (sNil a0) fun v58_45 =>
  xP Tryd.prog (sFA 131 v58_45 1) fun v59_46 =>
  xR Tryd.prog (sLoad 3 v59_46) (w37.drew) fun v60_47 =>
  xP Tryd.prog (sSlice 57 v50_40 (some v56_44) (some v60_47) none) fun v61_48 =>
  xE Tryd.prog (sConv 57 9 v61_48) (w37.drew) fun v62_49 w50 =>
  R (.returned v62_49) w50)
theorem C_gram_cursor_text {a0 : Value} {a1 : Value} {a2 : Value} {w : World} {R : Ending → World → Prop} (h : S_gram_cursor_text a0 a1 a2 w R) : Calls Tryd.prog 77 #[a0, a1, a2] w R :=
  funcVC_sound (an := A_gram_cursor_text) (args := [a0, a1, a2]) (k := 3) Tryd.func77 (by kernel_rfl) rfl
    (Eq.mp (show S_gram_cursor_text a0 a1 a2 w R = funcVC Tryd.prog Tryd.f77 A_gram_cursor_text [a0, a1, a2] w R by kernel_rfl) h)

/-- stave/gram.in -/
def A_gram_in : Ann := .nil
def S_gram_in (a0 : Value) (a1 : Value) (w : World) (R : Ending → World → Prop) : Prop :=
  xE Tryd.prog (sBox 123 a0) w fun v2_1 w2 =>
  xP Tryd.prog (sFA 123 v2_1 2) fun v6_3 =>
  xR Tryd.prog (sLoad 3 v6_3) w2 fun v7_4 =>
  xP Tryd.prog (sBin .geq 3 a1 v7_4) fun v8_5 =>
  xIf v8_5 (
  xP Tryd.prog (sFA 123 v2_1 3) fun v11_6 =>
  xR Tryd.prog (sLoad 3 v11_6) w2 fun v12_7 =>
  xP Tryd.prog (sBin .leq 3 a1 v12_7) fun v13_8 =>
  R (.returned v13_8) w2) (
  R (.returned (.bool false)) w2)
theorem C_gram_in {a0 : Value} {a1 : Value} {w : World} {R : Ending → World → Prop} (h : S_gram_in a0 a1 w R) : Calls Tryd.prog 78 #[a0, a1] w R :=
  funcVC_sound (an := A_gram_in) (args := [a0, a1]) (k := 2) Tryd.func78 (by kernel_rfl) rfl
    (Eq.mp (show S_gram_in a0 a1 w R = funcVC Tryd.prog Tryd.f78 A_gram_in [a0, a1] w R by kernel_rfl) h)

/-- slices.ContainsFunc[[]string,string] -/
def A_slices_ContainsFunc_string : Ann := .nil
def S_slices_ContainsFunc_string (a0 : Value) (a1 : Value) (w : World) (R : Ending → World → Prop) : Prop :=
  xE Tryd.prog (sCall 83 #[a0, a1]) w fun v7_1 w2 =>
  xP Tryd.prog (sBin .geq 3 v7_1 (.int .i64 0)) fun v8_3 =>
  R (.returned v8_3) w2
theorem C_slices_ContainsFunc_string {a0 : Value} {a1 : Value} {w : World} {R : Ending → World → Prop} (h : S_slices_ContainsFunc_string a0 a1 w R) : Calls Tryd.prog 79 #[a0, a1] w R :=
  funcVC_sound (an := A_slices_ContainsFunc_string) (args := [a0, a1]) (k := 2) Tryd.func79 (by kernel_rfl) rfl
    (Eq.mp (show S_slices_ContainsFunc_string a0 a1 w R = funcVC Tryd.prog Tryd.f79 A_slices_ContainsFunc_string [a0, a1] w R by kernel_rfl) h)

/-- stave/gram.fits$1 -/
def A_gram_fitsx1 : Ann := .nil
def S_gram_fitsx1 (a0 : Value) (a1 : Value) (w : World) (R : Ending → World → Prop) : Prop :=
  xP Tryd.prog (sB .len #[9] #[a0]) fun v5_1 =>
  xP Tryd.prog (sFA 123 a1 4) fun v6_2 =>
  xR Tryd.prog (sLoad 3 v6_2) w fun v7_3 =>
  xP Tryd.prog (sBin .gtr 3 v5_1 v7_3) fun v8_4 =>
  R (.returned v8_4) w
theorem C_gram_fitsx1 {a0 : Value} {a1 : Value} {w : World} {R : Ending → World → Prop} (h : S_gram_fitsx1 a0 a1 w R) : Calls Tryd.prog 80 #[a0, a1] w R :=
  funcVC_sound (an := A_gram_fitsx1) (args := [a0, a1]) (k := 2) Tryd.func80 (by kernel_rfl) rfl
    (Eq.mp (show S_gram_fitsx1 a0 a1 w R = funcVC Tryd.prog Tryd.f80 A_gram_fitsx1 [a0, a1] w R by kernel_rfl) h)

/-- stave/gram.low -/
def A_gram_low : Ann := (.seq .nil (.seq .nil (.seq (.seq .nil (.one (.loop [11] .nil))) .nil)))
def S_gram_low (a0 : Value) (a1 : Value) (w : World) (R : Ending → World → Prop) : Prop :=
  xE Tryd.prog (sMakeSlice 57 a1 a1) w fun v8_1 w2 =>
  xP Tryd.prog (sB .len #[57] #[v8_1]) fun v10_3 =>
  xLoop [(.int .i64 0)] w2 fun J4 vs5 _ w7 =>
    xP Tryd.prog (sBin .lss 3 (vs5.getD 0 undef) v10_3) fun v12_8 =>
    xIf v12_8 (
      xP Tryd.prog (sBin .mul 3 (.int .i64 8) (vs5.getD 0 undef)) fun v18_9 =>
    xP Tryd.prog (sConv 3 133 v18_9) fun v19_10 =>
    xP Tryd.prog (sBin .shr 3 a0 v19_10) fun v20_11 =>
    xP Tryd.prog (sConv 3 5 v20_11) fun v21_12 =>
    xP Tryd.prog (sIA 57 v8_1 (vs5.getD 0 undef)) fun v22_13 =>
    xE Tryd.prog (sStore 5 v22_13 v21_12) w7 fun _ w14 =>
    xP Tryd.prog (sBin .add 3 (vs5.getD 0 undef) (.int .i64 1)) fun v23_15 =>
    J4 [v23_15] w14) (
      R (.returned v8_1) w7)
theorem C_gram_low {a0 : Value} {a1 : Value} {w : World} {R : Ending → World → Prop} (h : S_gram_low a0 a1 w R) : Calls Tryd.prog 81 #[a0, a1] w R :=
  funcVC_sound (an := A_gram_low) (args := [a0, a1]) (k := 2) Tryd.func81 (by kernel_rfl) rfl
    (Eq.mp (show S_gram_low a0 a1 w R = funcVC Tryd.prog Tryd.f81 A_gram_low [a0, a1] w R by kernel_rfl) h)

/-- slices.Contains[[]int,int] -/
def A_slices_Contains_int : Ann := .nil
def S_slices_Contains_int (a0 : Value) (a1 : Value) (w : World) (R : Ending → World → Prop) : Prop :=
  xE Tryd.prog (sCall 84 #[a0, a1]) w fun v7_1 w2 =>
  xP Tryd.prog (sBin .geq 3 v7_1 (.int .i64 0)) fun v8_3 =>
  R (.returned v8_3) w2
theorem C_slices_Contains_int {a0 : Value} {a1 : Value} {w : World} {R : Ending → World → Prop} (h : S_slices_Contains_int a0 a1 w R) : Calls Tryd.prog 82 #[a0, a1] w R :=
  funcVC_sound (an := A_slices_Contains_int) (args := [a0, a1]) (k := 2) Tryd.func82 (by kernel_rfl) rfl
    (Eq.mp (show S_slices_Contains_int a0 a1 w R = funcVC Tryd.prog Tryd.f82 A_slices_Contains_int [a0, a1] w R by kernel_rfl) h)

/-- slices.IndexFunc[[]string,string] -/
def A_slices_IndexFunc_string : Ann := (.seq .nil (.seq (.seq .nil (.one (.loop [8] .nil))) .nil))
def S_slices_IndexFunc_string (a0 : Value) (a1 : Value) (w : World) (R : Ending → World → Prop) : Prop :=
  xP Tryd.prog (sB .len #[53] #[a0]) fun v7_1 =>
  xLoop [(.int .i64 0)] w fun J2 vs3 _ w5 =>
    xP Tryd.prog (sBin .lss 3 (vs3.getD 0 undef) v7_1) fun v9_6 =>
    xIf v9_6 (
      xP Tryd.prog (sIA 53 a0 (vs3.getD 0 undef)) fun v14_7 =>
    xR Tryd.prog (sLoad 9 v14_7) w5 fun v15_8 =>
    xE Tryd.prog (sCallV a1 #[v15_8]) w5 fun v16_9 w10 =>
    xIf v16_9 (
      R (.returned (vs3.getD 0 undef)) w10) (
      xP Tryd.prog (sBin .add 3 (vs3.getD 0 undef) (.int .i64 1)) fun v18_11 =>
    J2 [v18_11] w10)) (
      R (.returned (.int .i64 (-1))) w5)
theorem C_slices_IndexFunc_string {a0 : Value} {a1 : Value} {w : World} {R : Ending → World → Prop} (h : S_slices_IndexFunc_string a0 a1 w R) : Calls Tryd.prog 83 #[a0, a1] w R :=
  funcVC_sound (an := A_slices_IndexFunc_string) (args := [a0, a1]) (k := 2) Tryd.func83 (by kernel_rfl) rfl
    (Eq.mp (show S_slices_IndexFunc_string a0 a1 w R = funcVC Tryd.prog Tryd.f83 A_slices_IndexFunc_string [a0, a1] w R by kernel_rfl) h)

/-- slices.Index[[]int,int] -/
def A_slices_Index_int : Ann := (.seq .nil (.seq (.seq .nil (.one (.loop [8] .nil))) .nil))
def S_slices_Index_int (a0 : Value) (a1 : Value) (w : World) (R : Ending → World → Prop) : Prop :=
  xP Tryd.prog (sB .len #[49] #[a0]) fun v7_1 =>
  xLoop [(.int .i64 0)] w fun J2 vs3 _ w5 =>
    xP Tryd.prog (sBin .lss 3 (vs3.getD 0 undef) v7_1) fun v9_6 =>
    xIf v9_6 (
      xP Tryd.prog (sIA 49 a0 (vs3.getD 0 undef)) fun v14_7 =>
    xR Tryd.prog (sLoad 3 v14_7) w5 fun v15_8 =>
    xR Tryd.prog (sEq .eql 3 false a1 v15_8) w5 fun v16_9 =>
    xIf v16_9 (
      R (.returned (vs3.getD 0 undef)) w5) (
      xP Tryd.prog (sBin .add 3 (vs3.getD 0 undef) (.int .i64 1)) fun v18_10 =>
    J2 [v18_10] w5)) (
      R (.returned (.int .i64 (-1))) w5)
theorem C_slices_Index_int {a0 : Value} {a1 : Value} {w : World} {R : Ending → World → Prop} (h : S_slices_Index_int a0 a1 w R) : Calls Tryd.prog 84 #[a0, a1] w R :=
  funcVC_sound (an := A_slices_Index_int) (args := [a0, a1]) (k := 2) Tryd.func84 (by kernel_rfl) rfl
    (Eq.mp (show S_slices_Index_int a0 a1 w R = funcVC Tryd.prog Tryd.f84 A_slices_Index_int [a0, a1] w R by kernel_rfl) h)

/-- (stave/api.Fault).Unwrap -/
def A_api_Fault_Unwrap : Ann := .nil
def S_api_Fault_Unwrap (a0 : Value) (w : World) (R : Ending → World → Prop) : Prop :=
  xE Tryd.prog (sBox 102 a0) w fun v1_1 w2 =>
  xP Tryd.prog (sFA 102 v1_1 2) fun v3_3 =>
  xR Tryd.prog (sLoad 27 v3_3) w2 fun v4_4 =>
  R (.returned v4_4) w2
theorem C_api_Fault_Unwrap {a0 : Value} {w : World} {R : Ending → World → Prop} (h : S_api_Fault_Unwrap a0 w R) : Calls Tryd.prog 104 #[a0] w R :=
  funcVC_sound (an := A_api_Fault_Unwrap) (args := [a0]) (k := 1) Tryd.func104 (by kernel_rfl) rfl
    (Eq.mp (show S_api_Fault_Unwrap a0 w R = funcVC Tryd.prog Tryd.f104 A_api_Fault_Unwrap [a0] w R by kernel_rfl) h)

/-- gosem.cut.vars -/
def A_gosem_cut_vars : Ann := .nil
def S_gosem_cut_vars (w : World) (R : Ending → World → Prop) : Prop :=
  xP Tryd.prog (sIface 191 (.pointer none)) fun v0_1 =>
  xE Tryd.prog (sCall 53 #[v0_1]) w fun v1_2 w3 =>
  xE Tryd.prog (sInvoke "Elem" #[v1_2]) w3 fun v2_4 w5 =>
  xE Tryd.prog (sStore 109 (.pointer (some ⟨0, 0, none⟩)) v2_4) w5 fun _ w6 =>
  R (.returned (.tuple #[])) w6
theorem C_gosem_cut_vars {w : World} {R : Ending → World → Prop} (h : S_gosem_cut_vars  w R) : Calls Tryd.prog 123 #[] w R :=
  funcVC_sound (an := A_gosem_cut_vars) (args := []) (k := 0) Tryd.func123 (by kernel_rfl) rfl
    (Eq.mp (show S_gosem_cut_vars  w R = funcVC Tryd.prog Tryd.f123 A_gosem_cut_vars [] w R by kernel_rfl) h)

end Go.Proofs.YtbfaglbfpmnnmaaDoor
