import Derived.Test.YtbfaglbfpmnnmaaDoorXMap
import Derived.Test.YtbfaglbfpmnnmaaDoorRows
namespace Go.Proofs.YtbfaglbfpmnnmaaDoor
set_option linter.unusedSimpArgs false
set_option linter.unusedVariables false
open Go.X
set_option maxRecDepth 100000

theorem FA_25_0 {K : Value → Prop} {b o : Nat} : xP Tryd.prog (sFA 25 (.pointer (some ⟨b, o, none⟩)) 0) K ↔ K (.pointer (some ⟨b, o + 0, none⟩)) := xP_FA (by kernel_rfl)
theorem FA_39_0 {K : Value → Prop} {b o : Nat} : xP Tryd.prog (sFA 39 (.pointer (some ⟨b, o, none⟩)) 0) K ↔ K (.pointer (some ⟨b, o + 0, none⟩)) := xP_FA (by kernel_rfl)
theorem FA_41_0 {K : Value → Prop} {b o : Nat} : xP Tryd.prog (sFA 41 (.pointer (some ⟨b, o, none⟩)) 0) K ↔ K (.pointer (some ⟨b, o + 0, none⟩)) := xP_FA (by kernel_rfl)
theorem FA_41_1 {K : Value → Prop} {b o : Nat} : xP Tryd.prog (sFA 41 (.pointer (some ⟨b, o, none⟩)) 1) K ↔ K (.pointer (some ⟨b, o + 1, none⟩)) := xP_FA (by kernel_rfl)
theorem FA_41_2 {K : Value → Prop} {b o : Nat} : xP Tryd.prog (sFA 41 (.pointer (some ⟨b, o, none⟩)) 2) K ↔ K (.pointer (some ⟨b, o + 2, none⟩)) := xP_FA (by kernel_rfl)
theorem FA_56_0 {K : Value → Prop} {b o : Nat} : xP Tryd.prog (sFA 56 (.pointer (some ⟨b, o, none⟩)) 0) K ↔ K (.pointer (some ⟨b, o + 0, none⟩)) := xP_FA (by kernel_rfl)
theorem FA_56_1 {K : Value → Prop} {b o : Nat} : xP Tryd.prog (sFA 56 (.pointer (some ⟨b, o, none⟩)) 1) K ↔ K (.pointer (some ⟨b, o + 1, none⟩)) := xP_FA (by kernel_rfl)
theorem FA_56_2 {K : Value → Prop} {b o : Nat} : xP Tryd.prog (sFA 56 (.pointer (some ⟨b, o, none⟩)) 2) K ↔ K (.pointer (some ⟨b, o + 2, none⟩)) := xP_FA (by kernel_rfl)
theorem FA_56_3 {K : Value → Prop} {b o : Nat} : xP Tryd.prog (sFA 56 (.pointer (some ⟨b, o, none⟩)) 3) K ↔ K (.pointer (some ⟨b, o + 3, none⟩)) := xP_FA (by kernel_rfl)
theorem FA_56_4 {K : Value → Prop} {b o : Nat} : xP Tryd.prog (sFA 56 (.pointer (some ⟨b, o, none⟩)) 4) K ↔ K (.pointer (some ⟨b, o + 4, none⟩)) := xP_FA (by kernel_rfl)
theorem FA_56_5 {K : Value → Prop} {b o : Nat} : xP Tryd.prog (sFA 56 (.pointer (some ⟨b, o, none⟩)) 5) K ↔ K (.pointer (some ⟨b, o + 5, none⟩)) := xP_FA (by kernel_rfl)
theorem FA_72_0 {K : Value → Prop} {b o : Nat} : xP Tryd.prog (sFA 72 (.pointer (some ⟨b, o, none⟩)) 0) K ↔ K (.pointer (some ⟨b, o + 0, none⟩)) := xP_FA (by kernel_rfl)
theorem FA_79_0 {K : Value → Prop} {b o : Nat} : xP Tryd.prog (sFA 79 (.pointer (some ⟨b, o, none⟩)) 0) K ↔ K (.pointer (some ⟨b, o + 0, none⟩)) := xP_FA (by kernel_rfl)
theorem FA_79_1 {K : Value → Prop} {b o : Nat} : xP Tryd.prog (sFA 79 (.pointer (some ⟨b, o, none⟩)) 1) K ↔ K (.pointer (some ⟨b, o + 1, none⟩)) := xP_FA (by kernel_rfl)
theorem FA_93_0 {K : Value → Prop} {b o : Nat} : xP Tryd.prog (sFA 93 (.pointer (some ⟨b, o, none⟩)) 0) K ↔ K (.pointer (some ⟨b, o + 0, none⟩)) := xP_FA (by kernel_rfl)
theorem FA_93_1 {K : Value → Prop} {b o : Nat} : xP Tryd.prog (sFA 93 (.pointer (some ⟨b, o, none⟩)) 1) K ↔ K (.pointer (some ⟨b, o + 1, none⟩)) := xP_FA (by kernel_rfl)
theorem FA_93_2 {K : Value → Prop} {b o : Nat} : xP Tryd.prog (sFA 93 (.pointer (some ⟨b, o, none⟩)) 2) K ↔ K (.pointer (some ⟨b, o + 2, none⟩)) := xP_FA (by kernel_rfl)
theorem FA_102_2 {K : Value → Prop} {b o : Nat} : xP Tryd.prog (sFA 102 (.pointer (some ⟨b, o, none⟩)) 2) K ↔ K (.pointer (some ⟨b, o + 2, none⟩)) := xP_FA (by kernel_rfl)
theorem FA_123_0 {K : Value → Prop} {b o : Nat} : xP Tryd.prog (sFA 123 (.pointer (some ⟨b, o, none⟩)) 0) K ↔ K (.pointer (some ⟨b, o + 0, none⟩)) := xP_FA (by kernel_rfl)
theorem FA_123_1 {K : Value → Prop} {b o : Nat} : xP Tryd.prog (sFA 123 (.pointer (some ⟨b, o, none⟩)) 1) K ↔ K (.pointer (some ⟨b, o + 1, none⟩)) := xP_FA (by kernel_rfl)
theorem FA_123_2 {K : Value → Prop} {b o : Nat} : xP Tryd.prog (sFA 123 (.pointer (some ⟨b, o, none⟩)) 2) K ↔ K (.pointer (some ⟨b, o + 2, none⟩)) := xP_FA (by kernel_rfl)
theorem FA_123_3 {K : Value → Prop} {b o : Nat} : xP Tryd.prog (sFA 123 (.pointer (some ⟨b, o, none⟩)) 3) K ↔ K (.pointer (some ⟨b, o + 3, none⟩)) := xP_FA (by kernel_rfl)
theorem FA_123_4 {K : Value → Prop} {b o : Nat} : xP Tryd.prog (sFA 123 (.pointer (some ⟨b, o, none⟩)) 4) K ↔ K (.pointer (some ⟨b, o + 4, none⟩)) := xP_FA (by kernel_rfl)
theorem FA_131_0 {K : Value → Prop} {b o : Nat} : xP Tryd.prog (sFA 131 (.pointer (some ⟨b, o, none⟩)) 0) K ↔ K (.pointer (some ⟨b, o + 0, none⟩)) := xP_FA (by kernel_rfl)
theorem FA_131_1 {K : Value → Prop} {b o : Nat} : xP Tryd.prog (sFA 131 (.pointer (some ⟨b, o, none⟩)) 1) K ↔ K (.pointer (some ⟨b, o + 1, none⟩)) := xP_FA (by kernel_rfl)
theorem FA_131_2 {K : Value → Prop} {b o : Nat} : xP Tryd.prog (sFA 131 (.pointer (some ⟨b, o, none⟩)) 2) K ↔ K (.pointer (some ⟨b, o + 2, none⟩)) := xP_FA (by kernel_rfl)
theorem FO_25_0 : fieldOneB Tryd.prog 25 0 0 = true := by kernel_rfl
theorem PT_22 : ptrB Tryd.prog 22 := by unfold ptrB; kernel_rfl
theorem ONE_3 : oneB Tryd.prog 3 = true := by kernel_rfl
theorem SZ_3 : sizeB Tryd.prog 3 1 = true := by kernel_rfl
theorem ONE_5 : oneB Tryd.prog 5 = true := by kernel_rfl
theorem SZ_5 : sizeB Tryd.prog 5 1 = true := by kernel_rfl
theorem ONE_9 : oneB Tryd.prog 9 = true := by kernel_rfl
theorem SZ_9 : sizeB Tryd.prog 9 1 = true := by kernel_rfl
theorem ONE_27 : oneB Tryd.prog 27 = true := by kernel_rfl
theorem SZ_27 : sizeB Tryd.prog 27 1 = true := by kernel_rfl
theorem ONE_31 : oneB Tryd.prog 31 = true := by kernel_rfl
theorem SZ_31 : sizeB Tryd.prog 31 1 = true := by kernel_rfl
theorem ONE_37 : oneB Tryd.prog 37 = true := by kernel_rfl
theorem SZ_37 : sizeB Tryd.prog 37 1 = true := by kernel_rfl
theorem ONE_53 : oneB Tryd.prog 53 = true := by kernel_rfl
theorem SZ_53 : sizeB Tryd.prog 53 1 = true := by kernel_rfl
theorem ONE_54 : oneB Tryd.prog 54 = true := by kernel_rfl
theorem SZ_54 : sizeB Tryd.prog 54 1 = true := by kernel_rfl
theorem ONE_57 : oneB Tryd.prog 57 = true := by kernel_rfl
theorem SZ_57 : sizeB Tryd.prog 57 1 = true := by kernel_rfl
theorem ONE_109 : oneB Tryd.prog 109 = true := by kernel_rfl
theorem SZ_109 : sizeB Tryd.prog 109 1 = true := by kernel_rfl
theorem AGG_25 : aggB Tryd.prog 25 3 = true := by kernel_rfl
theorem SZ_25 : sizeB Tryd.prog 25 3 = true := by kernel_rfl
theorem AGG_39 : aggB Tryd.prog 39 1 = true := by kernel_rfl
theorem SZ_39 : sizeB Tryd.prog 39 1 = true := by kernel_rfl
theorem AGG_41 : aggB Tryd.prog 41 3 = true := by kernel_rfl
theorem SZ_41 : sizeB Tryd.prog 41 3 = true := by kernel_rfl
theorem AGG_44 : aggB Tryd.prog 44 2 = true := by kernel_rfl
theorem SZ_44 : sizeB Tryd.prog 44 2 = true := by kernel_rfl
theorem AGG_56 : aggB Tryd.prog 56 6 = true := by kernel_rfl
theorem SZ_56 : sizeB Tryd.prog 56 6 = true := by kernel_rfl
theorem AGG_72 : aggB Tryd.prog 72 1 = true := by kernel_rfl
theorem SZ_72 : sizeB Tryd.prog 72 1 = true := by kernel_rfl
theorem AGG_79 : aggB Tryd.prog 79 2 = true := by kernel_rfl
theorem SZ_79 : sizeB Tryd.prog 79 2 = true := by kernel_rfl
theorem AGG_93 : aggB Tryd.prog 93 3 = true := by kernel_rfl
theorem SZ_93 : sizeB Tryd.prog 93 3 = true := by kernel_rfl
theorem AGG_102 : aggB Tryd.prog 102 3 = true := by kernel_rfl
theorem SZ_102 : sizeB Tryd.prog 102 3 = true := by kernel_rfl
theorem AGG_106 : aggB Tryd.prog 106 3 = true := by kernel_rfl
theorem SZ_106 : sizeB Tryd.prog 106 3 = true := by kernel_rfl
theorem AGG_123 : aggB Tryd.prog 123 5 = true := by kernel_rfl
theorem SZ_123 : sizeB Tryd.prog 123 5 = true := by kernel_rfl
theorem AGG_131 : aggB Tryd.prog 131 3 = true := by kernel_rfl
theorem SZ_131 : sizeB Tryd.prog 131 3 = true := by kernel_rfl
theorem Z_3 : zeroB Tryd.prog 3 (.int .i64 0) := by unfold zeroB; kernel_rfl
theorem Z_5 : zeroB Tryd.prog 5 (.int .u8 0) := by unfold zeroB; kernel_rfl
theorem Z_9 : zeroB Tryd.prog 9 (.string ⟨#[]⟩) := by unfold zeroB; kernel_rfl
theorem Z_25 : zeroB Tryd.prog 25 (.agg #[.int .i64 0, .int .i64 0, .int .i64 0]) := by unfold zeroB; kernel_rfl
theorem Z_27 : zeroB Tryd.prog 27 (.nilIface) := by unfold zeroB; kernel_rfl
theorem Z_31 : zeroB Tryd.prog 31 (.int .i64 0) := by unfold zeroB; kernel_rfl
theorem Z_41 : zeroB Tryd.prog 41 (.agg #[.int .i64 0, .int .i64 0, .int .i64 0]) := by unfold zeroB; kernel_rfl
theorem Z_44 : zeroB Tryd.prog 44 (.agg #[.int .i64 0, .int .i64 0]) := by unfold zeroB; kernel_rfl
theorem Z_56 : zeroB Tryd.prog 56 (.agg #[.int .i64 0, .int .i64 0, .int .i64 0, .int .i64 0, .slice none 0 0, .slice none 0 0]) := by unfold zeroB; kernel_rfl
theorem Z_79 : zeroB Tryd.prog 79 (.agg #[.int .i64 0, .string ⟨#[]⟩]) := by unfold zeroB; kernel_rfl
theorem Z_93 : zeroB Tryd.prog 93 (.agg #[.int .i64 0, .string ⟨#[]⟩, .slice none 0 0]) := by unfold zeroB; kernel_rfl
theorem Z_106 : zeroB Tryd.prog 106 (.agg #[.pointer none, .pointer none, .int .u64 0]) := by unfold zeroB; kernel_rfl
theorem Z_123 : zeroB Tryd.prog 123 (.agg #[.int .i64 0, .int .i64 0, .int .i64 0, .int .i64 0, .int .i64 0]) := by unfold zeroB; kernel_rfl
theorem SL_35 : sliceB Tryd.prog 35 41 = true := by kernel_rfl
theorem LEN_35 {K : Value → Prop} {a : Option Addr} {n c : Nat} : xP Tryd.prog (sB .len #[35] #[.slice a n c]) K ↔ K (.int .i64 n) := xP_len SL_35
theorem EL_35 : ElemB Tryd.prog 35 41 3 24 (.agg #[.int .i64 0, .int .i64 0, .int .i64 0]) := ⟨SL_35, by kernel_rfl, by kernel_rfl, Z_41, rfl, by decide⟩
theorem SL_45 : sliceB Tryd.prog 45 44 = true := by kernel_rfl
theorem LEN_45 {K : Value → Prop} {a : Option Addr} {n c : Nat} : xP Tryd.prog (sB .len #[45] #[.slice a n c]) K ↔ K (.int .i64 n) := xP_len SL_45
theorem EL_45 : ElemB Tryd.prog 45 44 2 16 (.agg #[.int .i64 0, .int .i64 0]) := ⟨SL_45, by kernel_rfl, by kernel_rfl, Z_44, rfl, by decide⟩
theorem SL_49 : sliceB Tryd.prog 49 3 = true := by kernel_rfl
theorem LEN_49 {K : Value → Prop} {a : Option Addr} {n c : Nat} : xP Tryd.prog (sB .len #[49] #[.slice a n c]) K ↔ K (.int .i64 n) := xP_len SL_49
theorem EL_49 : ElemB Tryd.prog 49 3 1 8 (.int .i64 0) := ⟨SL_49, by kernel_rfl, by kernel_rfl, Z_3, rfl, by decide⟩
theorem SL_53 : sliceB Tryd.prog 53 9 = true := by kernel_rfl
theorem LEN_53 {K : Value → Prop} {a : Option Addr} {n c : Nat} : xP Tryd.prog (sB .len #[53] #[.slice a n c]) K ↔ K (.int .i64 n) := xP_len SL_53
theorem EL_53 : ElemB Tryd.prog 53 9 1 16 (.string ⟨#[]⟩) := ⟨SL_53, by kernel_rfl, by kernel_rfl, Z_9, rfl, by decide⟩
theorem SL_54 : sliceB Tryd.prog 54 79 = true := by kernel_rfl
theorem LEN_54 {K : Value → Prop} {a : Option Addr} {n c : Nat} : xP Tryd.prog (sB .len #[54] #[.slice a n c]) K ↔ K (.int .i64 n) := xP_len SL_54
theorem EL_54 : ElemB Tryd.prog 54 79 2 24 (.agg #[.int .i64 0, .string ⟨#[]⟩]) := ⟨SL_54, by kernel_rfl, by kernel_rfl, Z_79, rfl, by decide⟩
theorem SL_57 : sliceB Tryd.prog 57 5 = true := by kernel_rfl
theorem LEN_57 {K : Value → Prop} {a : Option Addr} {n c : Nat} : xP Tryd.prog (sB .len #[57] #[.slice a n c]) K ↔ K (.int .i64 n) := xP_len SL_57
theorem EL_57 : ElemB Tryd.prog 57 5 1 1 (.int .u8 0) := ⟨SL_57, by kernel_rfl, by kernel_rfl, Z_5, rfl, by decide⟩
theorem SL_86 : sliceB Tryd.prog 86 123 = true := by kernel_rfl
theorem LEN_86 {K : Value → Prop} {a : Option Addr} {n c : Nat} : xP Tryd.prog (sB .len #[86] #[.slice a n c]) K ↔ K (.int .i64 n) := xP_len SL_86
theorem EL_86 : ElemB Tryd.prog 86 123 5 40 (.agg #[.int .i64 0, .int .i64 0, .int .i64 0, .int .i64 0, .int .i64 0]) := ⟨SL_86, by kernel_rfl, by kernel_rfl, Z_123, rfl, by decide⟩
theorem SL_88 : sliceB Tryd.prog 88 93 = true := by kernel_rfl
theorem LEN_88 {K : Value → Prop} {a : Option Addr} {n c : Nat} : xP Tryd.prog (sB .len #[88] #[.slice a n c]) K ↔ K (.int .i64 n) := xP_len SL_88
theorem EL_88 : ElemB Tryd.prog 88 93 3 48 (.agg #[.int .i64 0, .string ⟨#[]⟩, .slice none 0 0]) := ⟨SL_88, by kernel_rfl, by kernel_rfl, Z_93, rfl, by decide⟩
theorem SL_147 : sliceB Tryd.prog 147 27 = true := by kernel_rfl
theorem LEN_147 {K : Value → Prop} {a : Option Addr} {n c : Nat} : xP Tryd.prog (sB .len #[147] #[.slice a n c]) K ↔ K (.int .i64 n) := xP_len SL_147
theorem EL_147 : ElemB Tryd.prog 147 27 1 16 (.nilIface) := ⟨SL_147, by kernel_rfl, by kernel_rfl, Z_27, rfl, by decide⟩
theorem INT_2 : intB Tryd.prog 2 .i64 := by unfold intB; kernel_rfl
theorem INT_3 : intB Tryd.prog 3 .i64 := by unfold intB; kernel_rfl
theorem INT_5 : intB Tryd.prog 5 .u8 := by unfold intB; kernel_rfl
theorem INT_12 : intB Tryd.prog 12 .u64 := by unfold intB; kernel_rfl
theorem INT_21 : intB Tryd.prog 21 .i32 := by unfold intB; kernel_rfl
theorem INT_97 : intB Tryd.prog 97 .u64 := by unfold intB; kernel_rfl
theorem INT_133 : intB Tryd.prog 133 .u64 := by unfold intB; kernel_rfl
theorem INT_170 : intB Tryd.prog 170 .u32 := by unfold intB; kernel_rfl
theorem INT_184 : intB Tryd.prog 184 .u16 := by unfold intB; kernel_rfl
theorem MP_37 : mapB Tryd.prog 37 25 := ⟨3, by kernel_rfl, by kernel_rfl⟩
theorem MP_51 : mapB Tryd.prog 51 3 := ⟨3, by kernel_rfl, by kernel_rfl⟩
theorem CF_3 : calleeB Tryd.prog 3 = true := by kernel_rfl
theorem CF_4 : calleeB Tryd.prog 4 = true := by kernel_rfl
theorem CF_5 : calleeB Tryd.prog 5 = true := by kernel_rfl
theorem CF_6 : calleeB Tryd.prog 6 = true := by kernel_rfl
theorem CF_7 : calleeB Tryd.prog 7 = true := by kernel_rfl
theorem CF_8 : calleeB Tryd.prog 8 = true := by kernel_rfl
theorem CF_9 : calleeB Tryd.prog 9 = true := by kernel_rfl
theorem CF_10 : calleeB Tryd.prog 10 = true := by kernel_rfl
theorem CF_11 : calleeB Tryd.prog 11 = true := by kernel_rfl
theorem CF_12 : calleeB Tryd.prog 12 = true := by kernel_rfl
theorem CF_13 : calleeB Tryd.prog 13 = true := by kernel_rfl
theorem CF_14 : calleeB Tryd.prog 14 = true := by kernel_rfl
theorem CF_15 : calleeB Tryd.prog 15 = true := by kernel_rfl
theorem CF_16 : calleeB Tryd.prog 16 = true := by kernel_rfl
theorem CF_17 : calleeB Tryd.prog 17 = true := by kernel_rfl
theorem CF_18 : calleeB Tryd.prog 18 = true := by kernel_rfl
theorem CF_19 : calleeB Tryd.prog 19 = true := by kernel_rfl
theorem CF_20 : calleeB Tryd.prog 20 = true := by kernel_rfl
theorem CF_21 : calleeB Tryd.prog 21 = true := by kernel_rfl
theorem CF_22 : calleeB Tryd.prog 22 = true := by kernel_rfl
theorem CF_23 : calleeB Tryd.prog 23 = true := by kernel_rfl
theorem CF_24 : calleeB Tryd.prog 24 = true := by kernel_rfl
theorem CF_25 : calleeB Tryd.prog 25 = true := by kernel_rfl
theorem CF_26 : calleeB Tryd.prog 26 = true := by kernel_rfl
theorem CF_27 : calleeB Tryd.prog 27 = true := by kernel_rfl
theorem CF_28 : calleeB Tryd.prog 28 = true := by kernel_rfl
theorem CF_29 : calleeB Tryd.prog 29 = true := by kernel_rfl
theorem CF_30 : calleeB Tryd.prog 30 = true := by kernel_rfl
theorem CF_31 : calleeB Tryd.prog 31 = true := by kernel_rfl
theorem CF_32 : calleeB Tryd.prog 32 = true := by kernel_rfl
theorem CF_33 : calleeB Tryd.prog 33 = true := by kernel_rfl
theorem CF_34 : calleeB Tryd.prog 34 = true := by kernel_rfl
theorem CF_35 : calleeB Tryd.prog 35 = true := by kernel_rfl
theorem CF_36 : calleeB Tryd.prog 36 = true := by kernel_rfl
theorem CF_37 : calleeB Tryd.prog 37 = true := by kernel_rfl
theorem CF_38 : calleeB Tryd.prog 38 = true := by kernel_rfl
theorem CF_39 : calleeB Tryd.prog 39 = true := by kernel_rfl
theorem CF_40 : calleeB Tryd.prog 40 = true := by kernel_rfl
theorem CF_41 : calleeB Tryd.prog 41 = true := by kernel_rfl
theorem CF_42 : calleeB Tryd.prog 42 = true := by kernel_rfl
theorem CF_43 : calleeB Tryd.prog 43 = true := by kernel_rfl
theorem CF_44 : calleeB Tryd.prog 44 = true := by kernel_rfl
theorem CF_45 : calleeB Tryd.prog 45 = true := by kernel_rfl
theorem CF_46 : calleeB Tryd.prog 46 = true := by kernel_rfl
theorem CF_47 : calleeB Tryd.prog 47 = true := by kernel_rfl
theorem CF_48 : calleeB Tryd.prog 48 = true := by kernel_rfl
theorem CF_52 : calleeB Tryd.prog 52 = true := by kernel_rfl
theorem CF_54 : calleeB Tryd.prog 54 = true := by kernel_rfl
theorem CF_56 : calleeB Tryd.prog 56 = true := by kernel_rfl
theorem CF_57 : calleeB Tryd.prog 57 = true := by kernel_rfl
theorem CF_58 : calleeB Tryd.prog 58 = true := by kernel_rfl
theorem CF_59 : calleeB Tryd.prog 59 = true := by kernel_rfl
theorem CF_60 : calleeB Tryd.prog 60 = true := by kernel_rfl
theorem CF_61 : calleeB Tryd.prog 61 = true := by kernel_rfl
theorem CF_62 : calleeB Tryd.prog 62 = true := by kernel_rfl
theorem CF_63 : calleeB Tryd.prog 63 = true := by kernel_rfl
theorem CF_64 : calleeB Tryd.prog 64 = true := by kernel_rfl
theorem CF_65 : calleeB Tryd.prog 65 = true := by kernel_rfl
theorem CF_66 : calleeB Tryd.prog 66 = true := by kernel_rfl
theorem CF_67 : calleeB Tryd.prog 67 = true := by kernel_rfl
theorem CF_70 : calleeB Tryd.prog 70 = true := by kernel_rfl
theorem CF_71 : calleeB Tryd.prog 71 = true := by kernel_rfl
theorem CF_72 : calleeB Tryd.prog 72 = true := by kernel_rfl
theorem CF_73 : calleeB Tryd.prog 73 = true := by kernel_rfl
theorem CF_74 : calleeB Tryd.prog 74 = true := by kernel_rfl
theorem CF_75 : calleeB Tryd.prog 75 = true := by kernel_rfl
theorem CF_76 : calleeB Tryd.prog 76 = true := by kernel_rfl
theorem CF_77 : calleeB Tryd.prog 77 = true := by kernel_rfl
theorem CF_78 : calleeB Tryd.prog 78 = true := by kernel_rfl
theorem CF_79 : calleeB Tryd.prog 79 = true := by kernel_rfl
theorem CF_80 : calleeB Tryd.prog 80 = true := by kernel_rfl
theorem CF_81 : calleeB Tryd.prog 81 = true := by kernel_rfl
theorem CF_82 : calleeB Tryd.prog 82 = true := by kernel_rfl
theorem CF_83 : calleeB Tryd.prog 83 = true := by kernel_rfl
theorem CF_84 : calleeB Tryd.prog 84 = true := by kernel_rfl
theorem CF_104 : calleeB Tryd.prog 104 = true := by kernel_rfl
end Go.Proofs.YtbfaglbfpmnnmaaDoor
