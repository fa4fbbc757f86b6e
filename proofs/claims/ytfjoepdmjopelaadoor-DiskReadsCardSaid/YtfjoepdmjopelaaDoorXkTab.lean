import Derived.Test.YtfjoepdmjopelaaDoorXB
import Derived.Test.YtfjoepdmjopelaaDoorRows
namespace Go.Proofs.YtfjoepdmjopelaaDoor
set_option linter.unusedSimpArgs false
set_option linter.unusedVariables false
open Go.X
set_option maxRecDepth 100000

theorem FA_33_0 {K : Value → Prop} {b o : Nat} : xP Tryd.prog (sFA 33 (.pointer (some ⟨b, o, none⟩)) 0) K ↔ K (.pointer (some ⟨b, o + 0, none⟩)) := xP_FA (by kernel_rfl)
theorem FA_33_1 {K : Value → Prop} {b o : Nat} : xP Tryd.prog (sFA 33 (.pointer (some ⟨b, o, none⟩)) 1) K ↔ K (.pointer (some ⟨b, o + 1, none⟩)) := xP_FA (by kernel_rfl)
theorem FA_33_3 {K : Value → Prop} {b o : Nat} : xP Tryd.prog (sFA 33 (.pointer (some ⟨b, o, none⟩)) 3) K ↔ K (.pointer (some ⟨b, o + 3, none⟩)) := xP_FA (by kernel_rfl)
theorem FA_53_0 {K : Value → Prop} {b o : Nat} : xP Tryd.prog (sFA 53 (.pointer (some ⟨b, o, none⟩)) 0) K ↔ K (.pointer (some ⟨b, o + 0, none⟩)) := xP_FA (by kernel_rfl)
theorem FA_53_1 {K : Value → Prop} {b o : Nat} : xP Tryd.prog (sFA 53 (.pointer (some ⟨b, o, none⟩)) 1) K ↔ K (.pointer (some ⟨b, o + 1, none⟩)) := xP_FA (by kernel_rfl)
theorem FA_53_2 {K : Value → Prop} {b o : Nat} : xP Tryd.prog (sFA 53 (.pointer (some ⟨b, o, none⟩)) 2) K ↔ K (.pointer (some ⟨b, o + 2, none⟩)) := xP_FA (by kernel_rfl)
theorem FA_53_3 {K : Value → Prop} {b o : Nat} : xP Tryd.prog (sFA 53 (.pointer (some ⟨b, o, none⟩)) 3) K ↔ K (.pointer (some ⟨b, o + 3, none⟩)) := xP_FA (by kernel_rfl)
theorem FA_61_0 {K : Value → Prop} {b o : Nat} : xP Tryd.prog (sFA 61 (.pointer (some ⟨b, o, none⟩)) 0) K ↔ K (.pointer (some ⟨b, o + 0, none⟩)) := xP_FA (by kernel_rfl)
theorem FA_61_1 {K : Value → Prop} {b o : Nat} : xP Tryd.prog (sFA 61 (.pointer (some ⟨b, o, none⟩)) 1) K ↔ K (.pointer (some ⟨b, o + 1, none⟩)) := xP_FA (by kernel_rfl)
theorem FA_61_2 {K : Value → Prop} {b o : Nat} : xP Tryd.prog (sFA 61 (.pointer (some ⟨b, o, none⟩)) 2) K ↔ K (.pointer (some ⟨b, o + 2, none⟩)) := xP_FA (by kernel_rfl)
theorem PT_23 : ptrB Tryd.prog 23 := by unfold ptrB; kernel_rfl
theorem ONE_3 : oneB Tryd.prog 3 = true := by kernel_rfl
theorem SZ_3 : sizeB Tryd.prog 3 1 = true := by kernel_rfl
theorem ONE_4 : oneB Tryd.prog 4 = true := by kernel_rfl
theorem SZ_4 : sizeB Tryd.prog 4 1 = true := by kernel_rfl
theorem ONE_5 : oneB Tryd.prog 5 = true := by kernel_rfl
theorem SZ_5 : sizeB Tryd.prog 5 1 = true := by kernel_rfl
theorem ONE_9 : oneB Tryd.prog 9 = true := by kernel_rfl
theorem SZ_9 : sizeB Tryd.prog 9 1 = true := by kernel_rfl
theorem ONE_25 : oneB Tryd.prog 25 = true := by kernel_rfl
theorem SZ_25 : sizeB Tryd.prog 25 1 = true := by kernel_rfl
theorem ONE_29 : oneB Tryd.prog 29 = true := by kernel_rfl
theorem SZ_29 : sizeB Tryd.prog 29 1 = true := by kernel_rfl
theorem ONE_36 : oneB Tryd.prog 36 = true := by kernel_rfl
theorem SZ_36 : sizeB Tryd.prog 36 1 = true := by kernel_rfl
theorem ONE_45 : oneB Tryd.prog 45 = true := by kernel_rfl
theorem SZ_45 : sizeB Tryd.prog 45 1 = true := by kernel_rfl
theorem ONE_50 : oneB Tryd.prog 50 = true := by kernel_rfl
theorem SZ_50 : sizeB Tryd.prog 50 1 = true := by kernel_rfl
theorem ONE_51 : oneB Tryd.prog 51 = true := by kernel_rfl
theorem SZ_51 : sizeB Tryd.prog 51 1 = true := by kernel_rfl
theorem ONE_75 : oneB Tryd.prog 75 = true := by kernel_rfl
theorem SZ_75 : sizeB Tryd.prog 75 1 = true := by kernel_rfl
theorem AGG_28 : aggB Tryd.prog 28 5 = true := by kernel_rfl
theorem SZ_28 : sizeB Tryd.prog 28 5 = true := by kernel_rfl
theorem AGG_33 : aggB Tryd.prog 33 6 = true := by kernel_rfl
theorem SZ_33 : sizeB Tryd.prog 33 6 = true := by kernel_rfl
theorem AGG_53 : aggB Tryd.prog 53 4 = true := by kernel_rfl
theorem SZ_53 : sizeB Tryd.prog 53 4 = true := by kernel_rfl
theorem AGG_61 : aggB Tryd.prog 61 3 = true := by kernel_rfl
theorem SZ_61 : sizeB Tryd.prog 61 3 = true := by kernel_rfl
theorem AGG_72 : aggB Tryd.prog 72 3 = true := by kernel_rfl
theorem SZ_72 : sizeB Tryd.prog 72 3 = true := by kernel_rfl
theorem Z_3 : zeroB Tryd.prog 3 (.int .i64 0) := by unfold zeroB; kernel_rfl
theorem Z_5 : zeroB Tryd.prog 5 (.int .u8 0) := by unfold zeroB; kernel_rfl
theorem Z_25 : zeroB Tryd.prog 25 (.nilIface) := by unfold zeroB; kernel_rfl
theorem Z_28 : zeroB Tryd.prog 28 (.agg #[.int .u8 0, .int .u8 0, .int .u8 0, .int .u8 0, .int .u8 0]) := by unfold zeroB; kernel_rfl
theorem Z_33 : zeroB Tryd.prog 33 (.agg #[.int .i64 0, .int .i64 0, .int .i64 0, .int .u8 0, .int .u64 0, .bool false]) := by unfold zeroB; kernel_rfl
theorem Z_36 : zeroB Tryd.prog 36 (.slice none 0 0) := by unfold zeroB; kernel_rfl
theorem Z_45 : zeroB Tryd.prog 45 (.int .i64 0) := by unfold zeroB; kernel_rfl
theorem Z_61 : zeroB Tryd.prog 61 (.agg #[.string ⟨#[]⟩, .int .i64 0, .nilIface]) := by unfold zeroB; kernel_rfl
theorem Z_72 : zeroB Tryd.prog 72 (.agg #[.pointer none, .pointer none, .int .u64 0]) := by unfold zeroB; kernel_rfl
theorem SL_22 : sliceB Tryd.prog 22 33 = true := by kernel_rfl
theorem LEN_22 {K : Value → Prop} {a : Option Addr} {n c : Nat} : xP Tryd.prog (sB .len #[22] #[.slice a n c]) K ↔ K (.int .i64 n) := xP_len SL_22
theorem EL_22 : ElemB Tryd.prog 22 33 6 48 (.agg #[.int .i64 0, .int .i64 0, .int .i64 0, .int .u8 0, .int .u64 0, .bool false]) := ⟨SL_22, by kernel_rfl, by kernel_rfl, Z_33, rfl, by decide⟩
theorem SL_36 : sliceB Tryd.prog 36 5 = true := by kernel_rfl
theorem LEN_36 {K : Value → Prop} {a : Option Addr} {n c : Nat} : xP Tryd.prog (sB .len #[36] #[.slice a n c]) K ↔ K (.int .i64 n) := xP_len SL_36
theorem EL_36 : ElemB Tryd.prog 36 5 1 1 (.int .u8 0) := ⟨SL_36, by kernel_rfl, by kernel_rfl, Z_5, rfl, by decide⟩
theorem SL_41 : sliceB Tryd.prog 41 3 = true := by kernel_rfl
theorem LEN_41 {K : Value → Prop} {a : Option Addr} {n c : Nat} : xP Tryd.prog (sB .len #[41] #[.slice a n c]) K ↔ K (.int .i64 n) := xP_len SL_41
theorem EL_41 : ElemB Tryd.prog 41 3 1 8 (.int .i64 0) := ⟨SL_41, by kernel_rfl, by kernel_rfl, Z_3, rfl, by decide⟩
theorem SL_50 : sliceB Tryd.prog 50 36 = true := by kernel_rfl
theorem LEN_50 {K : Value → Prop} {a : Option Addr} {n c : Nat} : xP Tryd.prog (sB .len #[50] #[.slice a n c]) K ↔ K (.int .i64 n) := xP_len SL_50
theorem EL_50 : ElemB Tryd.prog 50 36 1 24 (.slice none 0 0) := ⟨SL_50, by kernel_rfl, by kernel_rfl, Z_36, rfl, by decide⟩
theorem SL_58 : sliceB Tryd.prog 58 61 = true := by kernel_rfl
theorem LEN_58 {K : Value → Prop} {a : Option Addr} {n c : Nat} : xP Tryd.prog (sB .len #[58] #[.slice a n c]) K ↔ K (.int .i64 n) := xP_len SL_58
theorem EL_58 : ElemB Tryd.prog 58 61 3 40 (.agg #[.string ⟨#[]⟩, .int .i64 0, .nilIface]) := ⟨SL_58, by kernel_rfl, by kernel_rfl, Z_61, rfl, by decide⟩
theorem SL_94 : sliceB Tryd.prog 94 25 = true := by kernel_rfl
theorem LEN_94 {K : Value → Prop} {a : Option Addr} {n c : Nat} : xP Tryd.prog (sB .len #[94] #[.slice a n c]) K ↔ K (.int .i64 n) := xP_len SL_94
theorem EL_94 : ElemB Tryd.prog 94 25 1 16 (.nilIface) := ⟨SL_94, by kernel_rfl, by kernel_rfl, Z_25, rfl, by decide⟩
theorem INT_2 : intB Tryd.prog 2 .i64 := by unfold intB; kernel_rfl
theorem INT_3 : intB Tryd.prog 3 .i64 := by unfold intB; kernel_rfl
theorem INT_5 : intB Tryd.prog 5 .u8 := by unfold intB; kernel_rfl
theorem INT_12 : intB Tryd.prog 12 .u64 := by unfold intB; kernel_rfl
theorem INT_21 : intB Tryd.prog 21 .i32 := by unfold intB; kernel_rfl
theorem INT_31 : intB Tryd.prog 31 .u64 := by unfold intB; kernel_rfl
theorem INT_67 : intB Tryd.prog 67 .u32 := by unfold intB; kernel_rfl
theorem INT_83 : intB Tryd.prog 83 .u64 := by unfold intB; kernel_rfl
theorem INT_120 : intB Tryd.prog 120 .u16 := by unfold intB; kernel_rfl
theorem MP_29 : mapB Tryd.prog 29 4 := ⟨3, by kernel_rfl, by kernel_rfl⟩
theorem MP_51 : mapB Tryd.prog 51 36 := ⟨3, by kernel_rfl, by kernel_rfl⟩
theorem CF_3 : calleeB Tryd.prog 3 = true := by kernel_rfl
theorem CF_4 : calleeB Tryd.prog 4 = true := by kernel_rfl
theorem CF_5 : calleeB Tryd.prog 5 = true := by kernel_rfl
theorem CF_6 : calleeB Tryd.prog 6 = true := by kernel_rfl
theorem CF_7 : calleeB Tryd.prog 7 = true := by kernel_rfl
theorem CF_8 : calleeB Tryd.prog 8 = true := by kernel_rfl
theorem CF_9 : calleeB Tryd.prog 9 = true := by kernel_rfl
theorem CF_10 : calleeB Tryd.prog 10 = true := by kernel_rfl
theorem CF_11 : calleeB Tryd.prog 11 = true := by kernel_rfl
theorem CF_12 : calleeB Tryd.prog 12 = true := by kernel_rfl
theorem CF_13 : calleeB Tryd.prog 13 = true := by kernel_rfl
theorem CF_14 : calleeB Tryd.prog 14 = true := by kernel_rfl
theorem CF_15 : calleeB Tryd.prog 15 = true := by kernel_rfl
theorem CF_16 : calleeB Tryd.prog 16 = true := by kernel_rfl
theorem CF_17 : calleeB Tryd.prog 17 = true := by kernel_rfl
theorem CF_18 : calleeB Tryd.prog 18 = true := by kernel_rfl
theorem CF_19 : calleeB Tryd.prog 19 = true := by kernel_rfl
theorem CF_20 : calleeB Tryd.prog 20 = true := by kernel_rfl
theorem CF_21 : calleeB Tryd.prog 21 = true := by kernel_rfl
theorem CF_22 : calleeB Tryd.prog 22 = true := by kernel_rfl
theorem CF_23 : calleeB Tryd.prog 23 = true := by kernel_rfl
theorem CF_24 : calleeB Tryd.prog 24 = true := by kernel_rfl
theorem CF_25 : calleeB Tryd.prog 25 = true := by kernel_rfl
theorem CF_29 : calleeB Tryd.prog 29 = true := by kernel_rfl
theorem CF_31 : calleeB Tryd.prog 31 = true := by kernel_rfl
theorem CF_53 : calleeB Tryd.prog 53 = true := by kernel_rfl
end Go.Proofs.YtfjoepdmjopelaaDoor
