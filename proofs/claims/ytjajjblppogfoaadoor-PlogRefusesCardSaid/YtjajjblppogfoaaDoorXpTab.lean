import Derived.Test.YtjajjblppogfoaaDoorXB
import Derived.Test.YtjajjblppogfoaaDoorRows
namespace Go.Proofs.YtjajjblppogfoaaDoor
set_option linter.unusedSimpArgs false
set_option linter.unusedVariables false
open Go.X
set_option maxRecDepth 100000

theorem FA_40_0 {K : Value → Prop} {b o : Nat} : xP Tryd.prog (sFA 40 (.pointer (some ⟨b, o, none⟩)) 0) K ↔ K (.pointer (some ⟨b, o + 0, none⟩)) := xP_FA (by kernel_rfl)
theorem FA_40_1 {K : Value → Prop} {b o : Nat} : xP Tryd.prog (sFA 40 (.pointer (some ⟨b, o, none⟩)) 1) K ↔ K (.pointer (some ⟨b, o + 1, none⟩)) := xP_FA (by kernel_rfl)
theorem FA_64_0 {K : Value → Prop} {b o : Nat} : xP Tryd.prog (sFA 64 (.pointer (some ⟨b, o, none⟩)) 0) K ↔ K (.pointer (some ⟨b, o + 0, none⟩)) := xP_FA (by kernel_rfl)
theorem FA_64_1 {K : Value → Prop} {b o : Nat} : xP Tryd.prog (sFA 64 (.pointer (some ⟨b, o, none⟩)) 1) K ↔ K (.pointer (some ⟨b, o + 1, none⟩)) := xP_FA (by kernel_rfl)
theorem FA_64_2 {K : Value → Prop} {b o : Nat} : xP Tryd.prog (sFA 64 (.pointer (some ⟨b, o, none⟩)) 2) K ↔ K (.pointer (some ⟨b, o + 2, none⟩)) := xP_FA (by kernel_rfl)
theorem FA_67_0 {K : Value → Prop} {b o : Nat} : xP Tryd.prog (sFA 67 (.pointer (some ⟨b, o, none⟩)) 0) K ↔ K (.pointer (some ⟨b, o + 0, none⟩)) := xP_FA (by kernel_rfl)
theorem FA_67_1 {K : Value → Prop} {b o : Nat} : xP Tryd.prog (sFA 67 (.pointer (some ⟨b, o, none⟩)) 1) K ↔ K (.pointer (some ⟨b, o + 1, none⟩)) := xP_FA (by kernel_rfl)
theorem FA_67_2 {K : Value → Prop} {b o : Nat} : xP Tryd.prog (sFA 67 (.pointer (some ⟨b, o, none⟩)) 2) K ↔ K (.pointer (some ⟨b, o + 2, none⟩)) := xP_FA (by kernel_rfl)
theorem FA_67_3 {K : Value → Prop} {b o : Nat} : xP Tryd.prog (sFA 67 (.pointer (some ⟨b, o, none⟩)) 3) K ↔ K (.pointer (some ⟨b, o + 3, none⟩)) := xP_FA (by kernel_rfl)
theorem FA_75_0 {K : Value → Prop} {b o : Nat} : xP Tryd.prog (sFA 75 (.pointer (some ⟨b, o, none⟩)) 0) K ↔ K (.pointer (some ⟨b, o + 0, none⟩)) := xP_FA (by kernel_rfl)
theorem FA_75_1 {K : Value → Prop} {b o : Nat} : xP Tryd.prog (sFA 75 (.pointer (some ⟨b, o, none⟩)) 1) K ↔ K (.pointer (some ⟨b, o + 1, none⟩)) := xP_FA (by kernel_rfl)
theorem FA_75_2 {K : Value → Prop} {b o : Nat} : xP Tryd.prog (sFA 75 (.pointer (some ⟨b, o, none⟩)) 2) K ↔ K (.pointer (some ⟨b, o + 2, none⟩)) := xP_FA (by kernel_rfl)
theorem FA_75_3 {K : Value → Prop} {b o : Nat} : xP Tryd.prog (sFA 75 (.pointer (some ⟨b, o, none⟩)) 3) K ↔ K (.pointer (some ⟨b, o + 3, none⟩)) := xP_FA (by kernel_rfl)
theorem FA_82_0 {K : Value → Prop} {b o : Nat} : xP Tryd.prog (sFA 82 (.pointer (some ⟨b, o, none⟩)) 0) K ↔ K (.pointer (some ⟨b, o + 0, none⟩)) := xP_FA (by kernel_rfl)
theorem FA_82_1 {K : Value → Prop} {b o : Nat} : xP Tryd.prog (sFA 82 (.pointer (some ⟨b, o, none⟩)) 1) K ↔ K (.pointer (some ⟨b, o + 1, none⟩)) := xP_FA (by kernel_rfl)
theorem FA_82_2 {K : Value → Prop} {b o : Nat} : xP Tryd.prog (sFA 82 (.pointer (some ⟨b, o, none⟩)) 2) K ↔ K (.pointer (some ⟨b, o + 2, none⟩)) := xP_FA (by kernel_rfl)
theorem FA_96_0 {K : Value → Prop} {b o : Nat} : xP Tryd.prog (sFA 96 (.pointer (some ⟨b, o, none⟩)) 0) K ↔ K (.pointer (some ⟨b, o + 0, none⟩)) := xP_FA (by kernel_rfl)
theorem FA_96_1 {K : Value → Prop} {b o : Nat} : xP Tryd.prog (sFA 96 (.pointer (some ⟨b, o, none⟩)) 1) K ↔ K (.pointer (some ⟨b, o + 1, none⟩)) := xP_FA (by kernel_rfl)
theorem FA_96_2 {K : Value → Prop} {b o : Nat} : xP Tryd.prog (sFA 96 (.pointer (some ⟨b, o, none⟩)) 2) K ↔ K (.pointer (some ⟨b, o + 2, none⟩)) := xP_FA (by kernel_rfl)
theorem FA_123_0 {K : Value → Prop} {b o : Nat} : xP Tryd.prog (sFA 123 (.pointer (some ⟨b, o, none⟩)) 0) K ↔ K (.pointer (some ⟨b, o + 0, none⟩)) := xP_FA (by kernel_rfl)
theorem FA_123_1 {K : Value → Prop} {b o : Nat} : xP Tryd.prog (sFA 123 (.pointer (some ⟨b, o, none⟩)) 1) K ↔ K (.pointer (some ⟨b, o + 1, none⟩)) := xP_FA (by kernel_rfl)
theorem FA_123_2 {K : Value → Prop} {b o : Nat} : xP Tryd.prog (sFA 123 (.pointer (some ⟨b, o, none⟩)) 2) K ↔ K (.pointer (some ⟨b, o + 2, none⟩)) := xP_FA (by kernel_rfl)
theorem FO_64_0 : fieldOneB Tryd.prog 64 0 0 = true := by kernel_rfl
theorem FO_64_2 : fieldOneB Tryd.prog 64 2 2 = true := by kernel_rfl
theorem PT_46 : ptrB Tryd.prog 46 := by unfold ptrB; kernel_rfl
theorem PT_71 : ptrB Tryd.prog 71 := by unfold ptrB; kernel_rfl
theorem ONE_3 : oneB Tryd.prog 3 = true := by kernel_rfl
theorem SZ_3 : sizeB Tryd.prog 3 1 = true := by kernel_rfl
theorem ONE_4 : oneB Tryd.prog 4 = true := by kernel_rfl
theorem SZ_4 : sizeB Tryd.prog 4 1 = true := by kernel_rfl
theorem ONE_9 : oneB Tryd.prog 9 = true := by kernel_rfl
theorem SZ_9 : sizeB Tryd.prog 9 1 = true := by kernel_rfl
theorem ONE_23 : oneB Tryd.prog 23 = true := by kernel_rfl
theorem SZ_23 : sizeB Tryd.prog 23 1 = true := by kernel_rfl
theorem ONE_25 : oneB Tryd.prog 25 = true := by kernel_rfl
theorem SZ_25 : sizeB Tryd.prog 25 1 = true := by kernel_rfl
theorem ONE_51 : oneB Tryd.prog 51 = true := by kernel_rfl
theorem SZ_51 : sizeB Tryd.prog 51 1 = true := by kernel_rfl
theorem ONE_56 : oneB Tryd.prog 56 = true := by kernel_rfl
theorem SZ_56 : sizeB Tryd.prog 56 1 = true := by kernel_rfl
theorem ONE_90 : oneB Tryd.prog 90 = true := by kernel_rfl
theorem SZ_90 : sizeB Tryd.prog 90 1 = true := by kernel_rfl
theorem ONE_93 : oneB Tryd.prog 93 = true := by kernel_rfl
theorem SZ_93 : sizeB Tryd.prog 93 1 = true := by kernel_rfl
theorem AGG_29 : aggB Tryd.prog 29 3 = true := by kernel_rfl
theorem SZ_29 : sizeB Tryd.prog 29 3 = true := by kernel_rfl
theorem AGG_40 : aggB Tryd.prog 40 2 = true := by kernel_rfl
theorem SZ_40 : sizeB Tryd.prog 40 2 = true := by kernel_rfl
theorem AGG_64 : aggB Tryd.prog 64 5 = true := by kernel_rfl
theorem SZ_64 : sizeB Tryd.prog 64 5 = true := by kernel_rfl
theorem AGG_67 : aggB Tryd.prog 67 4 = true := by kernel_rfl
theorem SZ_67 : sizeB Tryd.prog 67 4 = true := by kernel_rfl
theorem AGG_75 : aggB Tryd.prog 75 4 = true := by kernel_rfl
theorem SZ_75 : sizeB Tryd.prog 75 4 = true := by kernel_rfl
theorem AGG_82 : aggB Tryd.prog 82 3 = true := by kernel_rfl
theorem SZ_82 : sizeB Tryd.prog 82 3 = true := by kernel_rfl
theorem AGG_96 : aggB Tryd.prog 96 3 = true := by kernel_rfl
theorem SZ_96 : sizeB Tryd.prog 96 3 = true := by kernel_rfl
theorem AGG_105 : aggB Tryd.prog 105 3 = true := by kernel_rfl
theorem SZ_105 : sizeB Tryd.prog 105 3 = true := by kernel_rfl
theorem AGG_123 : aggB Tryd.prog 123 3 = true := by kernel_rfl
theorem SZ_123 : sizeB Tryd.prog 123 3 = true := by kernel_rfl
theorem Z_3 : zeroB Tryd.prog 3 (.int .i64 0) := by unfold zeroB; kernel_rfl
theorem Z_9 : zeroB Tryd.prog 9 (.string ⟨#[]⟩) := by unfold zeroB; kernel_rfl
theorem Z_23 : zeroB Tryd.prog 23 (.nilIface) := by unfold zeroB; kernel_rfl
theorem Z_25 : zeroB Tryd.prog 25 (.int .i64 0) := by unfold zeroB; kernel_rfl
theorem Z_29 : zeroB Tryd.prog 29 (.agg #[.int .i64 0, .int .i64 0, .int .i64 0]) := by unfold zeroB; kernel_rfl
theorem Z_40 : zeroB Tryd.prog 40 (.agg #[.string ⟨#[]⟩, .int .i64 0]) := by unfold zeroB; kernel_rfl
theorem Z_64 : zeroB Tryd.prog 64 (.agg #[.int .i64 0, .int .i64 0, .int .i64 0, .int .i64 0, .int .i64 0]) := by unfold zeroB; kernel_rfl
theorem Z_67 : zeroB Tryd.prog 67 (.agg #[.int .i64 0, .int .i64 0, .int .i64 0, .bool false]) := by unfold zeroB; kernel_rfl
theorem Z_82 : zeroB Tryd.prog 82 (.agg #[.string ⟨#[]⟩, .int .i64 0, .nilIface]) := by unfold zeroB; kernel_rfl
theorem Z_105 : zeroB Tryd.prog 105 (.agg #[.pointer none, .pointer none, .int .u64 0]) := by unfold zeroB; kernel_rfl
theorem SL_34 : sliceB Tryd.prog 34 9 = true := by kernel_rfl
theorem LEN_34 {K : Value → Prop} {a : Option Addr} {n c : Nat} : xP Tryd.prog (sB .len #[34] #[.slice a n c]) K ↔ K (.int .i64 n) := xP_len SL_34
theorem EL_34 : ElemB Tryd.prog 34 9 1 16 (.string ⟨#[]⟩) := ⟨SL_34, by kernel_rfl, by kernel_rfl, Z_9, rfl, by decide⟩
theorem SL_38 : sliceB Tryd.prog 38 40 = true := by kernel_rfl
theorem LEN_38 {K : Value → Prop} {a : Option Addr} {n c : Nat} : xP Tryd.prog (sB .len #[38] #[.slice a n c]) K ↔ K (.int .i64 n) := xP_len SL_38
theorem EL_38 : ElemB Tryd.prog 38 40 2 24 (.agg #[.string ⟨#[]⟩, .int .i64 0]) := ⟨SL_38, by kernel_rfl, by kernel_rfl, Z_40, rfl, by decide⟩
theorem SL_51 : sliceB Tryd.prog 51 64 = true := by kernel_rfl
theorem LEN_51 {K : Value → Prop} {a : Option Addr} {n c : Nat} : xP Tryd.prog (sB .len #[51] #[.slice a n c]) K ↔ K (.int .i64 n) := xP_len SL_51
theorem EL_51 : ElemB Tryd.prog 51 64 5 40 (.agg #[.int .i64 0, .int .i64 0, .int .i64 0, .int .i64 0, .int .i64 0]) := ⟨SL_51, by kernel_rfl, by kernel_rfl, Z_64, rfl, by decide⟩
theorem SL_56 : sliceB Tryd.prog 56 3 = true := by kernel_rfl
theorem LEN_56 {K : Value → Prop} {a : Option Addr} {n c : Nat} : xP Tryd.prog (sB .len #[56] #[.slice a n c]) K ↔ K (.int .i64 n) := xP_len SL_56
theorem EL_56 : ElemB Tryd.prog 56 3 1 8 (.int .i64 0) := ⟨SL_56, by kernel_rfl, by kernel_rfl, Z_3, rfl, by decide⟩
theorem SL_60 : sliceB Tryd.prog 60 23 = true := by kernel_rfl
theorem LEN_60 {K : Value → Prop} {a : Option Addr} {n c : Nat} : xP Tryd.prog (sB .len #[60] #[.slice a n c]) K ↔ K (.int .i64 n) := xP_len SL_60
theorem EL_60 : ElemB Tryd.prog 60 23 1 16 (.nilIface) := ⟨SL_60, by kernel_rfl, by kernel_rfl, Z_23, rfl, by decide⟩
theorem SL_65 : sliceB Tryd.prog 65 67 = true := by kernel_rfl
theorem LEN_65 {K : Value → Prop} {a : Option Addr} {n c : Nat} : xP Tryd.prog (sB .len #[65] #[.slice a n c]) K ↔ K (.int .i64 n) := xP_len SL_65
theorem EL_65 : ElemB Tryd.prog 65 67 4 32 (.agg #[.int .i64 0, .int .i64 0, .int .i64 0, .bool false]) := ⟨SL_65, by kernel_rfl, by kernel_rfl, Z_67, rfl, by decide⟩
theorem SL_83 : sliceB Tryd.prog 83 82 = true := by kernel_rfl
theorem LEN_83 {K : Value → Prop} {a : Option Addr} {n c : Nat} : xP Tryd.prog (sB .len #[83] #[.slice a n c]) K ↔ K (.int .i64 n) := xP_len SL_83
theorem EL_83 : ElemB Tryd.prog 83 82 3 40 (.agg #[.string ⟨#[]⟩, .int .i64 0, .nilIface]) := ⟨SL_83, by kernel_rfl, by kernel_rfl, Z_82, rfl, by decide⟩
theorem SL_88 : sliceB Tryd.prog 88 25 = true := by kernel_rfl
theorem LEN_88 {K : Value → Prop} {a : Option Addr} {n c : Nat} : xP Tryd.prog (sB .len #[88] #[.slice a n c]) K ↔ K (.int .i64 n) := xP_len SL_88
theorem EL_88 : ElemB Tryd.prog 88 25 1 8 (.int .i64 0) := ⟨SL_88, by kernel_rfl, by kernel_rfl, Z_25, rfl, by decide⟩
theorem INT_2 : intB Tryd.prog 2 .i64 := by unfold intB; kernel_rfl
theorem INT_3 : intB Tryd.prog 3 .i64 := by unfold intB; kernel_rfl
theorem INT_5 : intB Tryd.prog 5 .u8 := by unfold intB; kernel_rfl
theorem INT_12 : intB Tryd.prog 12 .u64 := by unfold intB; kernel_rfl
theorem INT_21 : intB Tryd.prog 21 .i32 := by unfold intB; kernel_rfl
theorem INT_133 : intB Tryd.prog 133 .u64 := by unfold intB; kernel_rfl
theorem INT_142 : intB Tryd.prog 142 .u32 := by unfold intB; kernel_rfl
theorem INT_156 : intB Tryd.prog 156 .u16 := by unfold intB; kernel_rfl
theorem CF_3 : calleeB Tryd.prog 3 = true := by kernel_rfl
theorem CF_4 : calleeB Tryd.prog 4 = true := by kernel_rfl
theorem CF_5 : calleeB Tryd.prog 5 = true := by kernel_rfl
theorem CF_6 : calleeB Tryd.prog 6 = true := by kernel_rfl
theorem CF_7 : calleeB Tryd.prog 7 = true := by kernel_rfl
theorem CF_8 : calleeB Tryd.prog 8 = true := by kernel_rfl
theorem CF_9 : calleeB Tryd.prog 9 = true := by kernel_rfl
theorem CF_10 : calleeB Tryd.prog 10 = true := by kernel_rfl
theorem CF_11 : calleeB Tryd.prog 11 = true := by kernel_rfl
theorem CF_12 : calleeB Tryd.prog 12 = true := by kernel_rfl
theorem CF_13 : calleeB Tryd.prog 13 = true := by kernel_rfl
theorem CF_14 : calleeB Tryd.prog 14 = true := by kernel_rfl
theorem CF_15 : calleeB Tryd.prog 15 = true := by kernel_rfl
theorem CF_16 : calleeB Tryd.prog 16 = true := by kernel_rfl
theorem CF_17 : calleeB Tryd.prog 17 = true := by kernel_rfl
theorem CF_18 : calleeB Tryd.prog 18 = true := by kernel_rfl
theorem CF_19 : calleeB Tryd.prog 19 = true := by kernel_rfl
theorem CF_20 : calleeB Tryd.prog 20 = true := by kernel_rfl
theorem CF_21 : calleeB Tryd.prog 21 = true := by kernel_rfl
theorem CF_22 : calleeB Tryd.prog 22 = true := by kernel_rfl
theorem CF_23 : calleeB Tryd.prog 23 = true := by kernel_rfl
theorem CF_24 : calleeB Tryd.prog 24 = true := by kernel_rfl
theorem CF_25 : calleeB Tryd.prog 25 = true := by kernel_rfl
theorem CF_26 : calleeB Tryd.prog 26 = true := by kernel_rfl
theorem CF_27 : calleeB Tryd.prog 27 = true := by kernel_rfl
theorem CF_28 : calleeB Tryd.prog 28 = true := by kernel_rfl
theorem CF_29 : calleeB Tryd.prog 29 = true := by kernel_rfl
theorem CF_30 : calleeB Tryd.prog 30 = true := by kernel_rfl
theorem CF_31 : calleeB Tryd.prog 31 = true := by kernel_rfl
theorem CF_32 : calleeB Tryd.prog 32 = true := by kernel_rfl
theorem CF_33 : calleeB Tryd.prog 33 = true := by kernel_rfl
theorem CF_34 : calleeB Tryd.prog 34 = true := by kernel_rfl
theorem CF_35 : calleeB Tryd.prog 35 = true := by kernel_rfl
theorem CF_36 : calleeB Tryd.prog 36 = true := by kernel_rfl
theorem CF_37 : calleeB Tryd.prog 37 = true := by kernel_rfl
theorem CF_38 : calleeB Tryd.prog 38 = true := by kernel_rfl
theorem CF_39 : calleeB Tryd.prog 39 = true := by kernel_rfl
theorem CF_40 : calleeB Tryd.prog 40 = true := by kernel_rfl
theorem CF_41 : calleeB Tryd.prog 41 = true := by kernel_rfl
theorem CF_42 : calleeB Tryd.prog 42 = true := by kernel_rfl
theorem CF_43 : calleeB Tryd.prog 43 = true := by kernel_rfl
theorem CF_44 : calleeB Tryd.prog 44 = true := by kernel_rfl
theorem CF_46 : calleeB Tryd.prog 46 = true := by kernel_rfl
theorem CF_47 : calleeB Tryd.prog 47 = true := by kernel_rfl
theorem CF_48 : calleeB Tryd.prog 48 = true := by kernel_rfl
theorem CF_49 : calleeB Tryd.prog 49 = true := by kernel_rfl
theorem CF_50 : calleeB Tryd.prog 50 = true := by kernel_rfl
theorem CF_51 : calleeB Tryd.prog 51 = true := by kernel_rfl
theorem CF_52 : calleeB Tryd.prog 52 = true := by kernel_rfl
theorem CF_53 : calleeB Tryd.prog 53 = true := by kernel_rfl
theorem CF_54 : calleeB Tryd.prog 54 = true := by kernel_rfl
theorem CF_55 : calleeB Tryd.prog 55 = true := by kernel_rfl
theorem CF_56 : calleeB Tryd.prog 56 = true := by kernel_rfl
theorem CF_60 : calleeB Tryd.prog 60 = true := by kernel_rfl
theorem CF_61 : calleeB Tryd.prog 61 = true := by kernel_rfl
theorem CF_62 : calleeB Tryd.prog 62 = true := by kernel_rfl
theorem CF_63 : calleeB Tryd.prog 63 = true := by kernel_rfl
theorem CF_64 : calleeB Tryd.prog 64 = true := by kernel_rfl
theorem CF_65 : calleeB Tryd.prog 65 = true := by kernel_rfl
theorem CF_66 : calleeB Tryd.prog 66 = true := by kernel_rfl
theorem CF_69 : calleeB Tryd.prog 69 = true := by kernel_rfl
theorem CF_89 : calleeB Tryd.prog 89 = true := by kernel_rfl
theorem CF_91 : calleeB Tryd.prog 91 = true := by kernel_rfl
end Go.Proofs.YtjajjblppogfoaaDoor
