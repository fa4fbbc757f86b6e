import Derived.Test.YthmjjdfjegjfeaaDoorXB
import Derived.Test.YthmjjdfjegjfeaaDoorRows
namespace Go.Proofs.YthmjjdfjegjfeaaDoor
set_option linter.unusedSimpArgs false
set_option linter.unusedVariables false
open Go.X
set_option maxRecDepth 100000

theorem FA_44_0 {K : Value → Prop} {b o : Nat} : xP Tryd.prog (sFA 44 (.pointer (some ⟨b, o, none⟩)) 0) K ↔ K (.pointer (some ⟨b, o + 0, none⟩)) := xP_FA (by kernel_rfl)
theorem FA_44_1 {K : Value → Prop} {b o : Nat} : xP Tryd.prog (sFA 44 (.pointer (some ⟨b, o, none⟩)) 1) K ↔ K (.pointer (some ⟨b, o + 1, none⟩)) := xP_FA (by kernel_rfl)
theorem FA_44_2 {K : Value → Prop} {b o : Nat} : xP Tryd.prog (sFA 44 (.pointer (some ⟨b, o, none⟩)) 2) K ↔ K (.pointer (some ⟨b, o + 2, none⟩)) := xP_FA (by kernel_rfl)
theorem FA_44_3 {K : Value → Prop} {b o : Nat} : xP Tryd.prog (sFA 44 (.pointer (some ⟨b, o, none⟩)) 3) K ↔ K (.pointer (some ⟨b, o + 3, none⟩)) := xP_FA (by kernel_rfl)
theorem FA_44_4 {K : Value → Prop} {b o : Nat} : xP Tryd.prog (sFA 44 (.pointer (some ⟨b, o, none⟩)) 4) K ↔ K (.pointer (some ⟨b, o + 4, none⟩)) := xP_FA (by kernel_rfl)
theorem FA_44_5 {K : Value → Prop} {b o : Nat} : xP Tryd.prog (sFA 44 (.pointer (some ⟨b, o, none⟩)) 5) K ↔ K (.pointer (some ⟨b, o + 5, none⟩)) := xP_FA (by kernel_rfl)
theorem FA_63_0 {K : Value → Prop} {b o : Nat} : xP Tryd.prog (sFA 63 (.pointer (some ⟨b, o, none⟩)) 0) K ↔ K (.pointer (some ⟨b, o + 0, none⟩)) := xP_FA (by kernel_rfl)
theorem FA_63_1 {K : Value → Prop} {b o : Nat} : xP Tryd.prog (sFA 63 (.pointer (some ⟨b, o, none⟩)) 1) K ↔ K (.pointer (some ⟨b, o + 1, none⟩)) := xP_FA (by kernel_rfl)
theorem FA_63_2 {K : Value → Prop} {b o : Nat} : xP Tryd.prog (sFA 63 (.pointer (some ⟨b, o, none⟩)) 2) K ↔ K (.pointer (some ⟨b, o + 2, none⟩)) := xP_FA (by kernel_rfl)
theorem FA_63_3 {K : Value → Prop} {b o : Nat} : xP Tryd.prog (sFA 63 (.pointer (some ⟨b, o, none⟩)) 3) K ↔ K (.pointer (some ⟨b, o + 3, none⟩)) := xP_FA (by kernel_rfl)
theorem FA_71_0 {K : Value → Prop} {b o : Nat} : xP Tryd.prog (sFA 71 (.pointer (some ⟨b, o, none⟩)) 0) K ↔ K (.pointer (some ⟨b, o + 0, none⟩)) := xP_FA (by kernel_rfl)
theorem FA_71_1 {K : Value → Prop} {b o : Nat} : xP Tryd.prog (sFA 71 (.pointer (some ⟨b, o, none⟩)) 1) K ↔ K (.pointer (some ⟨b, o + 1, none⟩)) := xP_FA (by kernel_rfl)
theorem FA_71_2 {K : Value → Prop} {b o : Nat} : xP Tryd.prog (sFA 71 (.pointer (some ⟨b, o, none⟩)) 2) K ↔ K (.pointer (some ⟨b, o + 2, none⟩)) := xP_FA (by kernel_rfl)
theorem FA_71_3 {K : Value → Prop} {b o : Nat} : xP Tryd.prog (sFA 71 (.pointer (some ⟨b, o, none⟩)) 3) K ↔ K (.pointer (some ⟨b, o + 3, none⟩)) := xP_FA (by kernel_rfl)
theorem FA_81_2 {K : Value → Prop} {b o : Nat} : xP Tryd.prog (sFA 81 (.pointer (some ⟨b, o, none⟩)) 2) K ↔ K (.pointer (some ⟨b, o + 2, none⟩)) := xP_FA (by kernel_rfl)
theorem PT_22 : ptrB Tryd.prog 22 := by unfold ptrB; kernel_rfl
theorem PT_52 : ptrB Tryd.prog 52 := by unfold ptrB; kernel_rfl
theorem ONE_3 : oneB Tryd.prog 3 = true := by kernel_rfl
theorem SZ_3 : sizeB Tryd.prog 3 1 = true := by kernel_rfl
theorem ONE_4 : oneB Tryd.prog 4 = true := by kernel_rfl
theorem SZ_4 : sizeB Tryd.prog 4 1 = true := by kernel_rfl
theorem ONE_5 : oneB Tryd.prog 5 = true := by kernel_rfl
theorem SZ_5 : sizeB Tryd.prog 5 1 = true := by kernel_rfl
theorem ONE_24 : oneB Tryd.prog 24 = true := by kernel_rfl
theorem SZ_24 : sizeB Tryd.prog 24 1 = true := by kernel_rfl
theorem ONE_28 : oneB Tryd.prog 28 = true := by kernel_rfl
theorem SZ_28 : sizeB Tryd.prog 28 1 = true := by kernel_rfl
theorem ONE_31 : oneB Tryd.prog 31 = true := by kernel_rfl
theorem SZ_31 : sizeB Tryd.prog 31 1 = true := by kernel_rfl
theorem ONE_37 : oneB Tryd.prog 37 = true := by kernel_rfl
theorem SZ_37 : sizeB Tryd.prog 37 1 = true := by kernel_rfl
theorem ONE_59 : oneB Tryd.prog 59 = true := by kernel_rfl
theorem SZ_59 : sizeB Tryd.prog 59 1 = true := by kernel_rfl
theorem ONE_60 : oneB Tryd.prog 60 = true := by kernel_rfl
theorem SZ_60 : sizeB Tryd.prog 60 1 = true := by kernel_rfl
theorem ONE_61 : oneB Tryd.prog 61 = true := by kernel_rfl
theorem SZ_61 : sizeB Tryd.prog 61 1 = true := by kernel_rfl
theorem ONE_88 : oneB Tryd.prog 88 = true := by kernel_rfl
theorem SZ_88 : sizeB Tryd.prog 88 1 = true := by kernel_rfl
theorem AGG_41 : aggB Tryd.prog 41 6 = true := by kernel_rfl
theorem SZ_41 : sizeB Tryd.prog 41 6 = true := by kernel_rfl
theorem AGG_44 : aggB Tryd.prog 44 6 = true := by kernel_rfl
theorem SZ_44 : sizeB Tryd.prog 44 6 = true := by kernel_rfl
theorem AGG_50 : aggB Tryd.prog 50 5 = true := by kernel_rfl
theorem SZ_50 : sizeB Tryd.prog 50 5 = true := by kernel_rfl
theorem AGG_63 : aggB Tryd.prog 63 4 = true := by kernel_rfl
theorem SZ_63 : sizeB Tryd.prog 63 4 = true := by kernel_rfl
theorem AGG_71 : aggB Tryd.prog 71 4 = true := by kernel_rfl
theorem SZ_71 : sizeB Tryd.prog 71 4 = true := by kernel_rfl
theorem AGG_81 : aggB Tryd.prog 81 3 = true := by kernel_rfl
theorem SZ_81 : sizeB Tryd.prog 81 3 = true := by kernel_rfl
theorem AGG_85 : aggB Tryd.prog 85 3 = true := by kernel_rfl
theorem SZ_85 : sizeB Tryd.prog 85 3 = true := by kernel_rfl
theorem Z_3 : zeroB Tryd.prog 3 (.int .i64 0) := by unfold zeroB; kernel_rfl
theorem Z_5 : zeroB Tryd.prog 5 (.int .u8 0) := by unfold zeroB; kernel_rfl
theorem Z_24 : zeroB Tryd.prog 24 (.nilIface) := by unfold zeroB; kernel_rfl
theorem Z_28 : zeroB Tryd.prog 28 (.slice none 0 0) := by unfold zeroB; kernel_rfl
theorem Z_37 : zeroB Tryd.prog 37 (.int .i64 0) := by unfold zeroB; kernel_rfl
theorem Z_41 : zeroB Tryd.prog 41 (.agg #[.int .u8 0, .int .u8 0, .int .u8 0, .int .u8 0, .int .u8 0, .int .u8 0]) := by unfold zeroB; kernel_rfl
theorem Z_44 : zeroB Tryd.prog 44 (.agg #[.int .i64 0, .int .i64 0, .int .i64 0, .int .u8 0, .int .u64 0, .bool false]) := by unfold zeroB; kernel_rfl
theorem Z_50 : zeroB Tryd.prog 50 (.agg #[.int .u8 0, .int .u8 0, .int .u8 0, .int .u8 0, .int .u8 0]) := by unfold zeroB; kernel_rfl
theorem Z_85 : zeroB Tryd.prog 85 (.agg #[.pointer none, .pointer none, .int .u64 0]) := by unfold zeroB; kernel_rfl
theorem SL_28 : sliceB Tryd.prog 28 5 = true := by kernel_rfl
theorem LEN_28 {K : Value → Prop} {a : Option Addr} {n c : Nat} : xP Tryd.prog (sB .len #[28] #[.slice a n c]) K ↔ K (.int .i64 n) := xP_len SL_28
theorem EL_28 : ElemB Tryd.prog 28 5 1 1 (.int .u8 0) := ⟨SL_28, by kernel_rfl, by kernel_rfl, Z_5, rfl, by decide⟩
theorem SL_40 : sliceB Tryd.prog 40 44 = true := by kernel_rfl
theorem LEN_40 {K : Value → Prop} {a : Option Addr} {n c : Nat} : xP Tryd.prog (sB .len #[40] #[.slice a n c]) K ↔ K (.int .i64 n) := xP_len SL_40
theorem EL_40 : ElemB Tryd.prog 40 44 6 48 (.agg #[.int .i64 0, .int .i64 0, .int .i64 0, .int .u8 0, .int .u64 0, .bool false]) := ⟨SL_40, by kernel_rfl, by kernel_rfl, Z_44, rfl, by decide⟩
theorem SL_46 : sliceB Tryd.prog 46 3 = true := by kernel_rfl
theorem LEN_46 {K : Value → Prop} {a : Option Addr} {n c : Nat} : xP Tryd.prog (sB .len #[46] #[.slice a n c]) K ↔ K (.int .i64 n) := xP_len SL_46
theorem EL_46 : ElemB Tryd.prog 46 3 1 8 (.int .i64 0) := ⟨SL_46, by kernel_rfl, by kernel_rfl, Z_3, rfl, by decide⟩
theorem SL_59 : sliceB Tryd.prog 59 28 = true := by kernel_rfl
theorem LEN_59 {K : Value → Prop} {a : Option Addr} {n c : Nat} : xP Tryd.prog (sB .len #[59] #[.slice a n c]) K ↔ K (.int .i64 n) := xP_len SL_59
theorem EL_59 : ElemB Tryd.prog 59 28 1 24 (.slice none 0 0) := ⟨SL_59, by kernel_rfl, by kernel_rfl, Z_28, rfl, by decide⟩
theorem SL_106 : sliceB Tryd.prog 106 24 = true := by kernel_rfl
theorem LEN_106 {K : Value → Prop} {a : Option Addr} {n c : Nat} : xP Tryd.prog (sB .len #[106] #[.slice a n c]) K ↔ K (.int .i64 n) := xP_len SL_106
theorem EL_106 : ElemB Tryd.prog 106 24 1 16 (.nilIface) := ⟨SL_106, by kernel_rfl, by kernel_rfl, Z_24, rfl, by decide⟩
theorem INT_2 : intB Tryd.prog 2 .i64 := by unfold intB; kernel_rfl
theorem INT_3 : intB Tryd.prog 3 .i64 := by unfold intB; kernel_rfl
theorem INT_5 : intB Tryd.prog 5 .u8 := by unfold intB; kernel_rfl
theorem INT_12 : intB Tryd.prog 12 .u64 := by unfold intB; kernel_rfl
theorem INT_21 : intB Tryd.prog 21 .i32 := by unfold intB; kernel_rfl
theorem INT_31 : intB Tryd.prog 31 .u64 := by unfold intB; kernel_rfl
theorem INT_35 : intB Tryd.prog 35 .u32 := by unfold intB; kernel_rfl
theorem INT_74 : intB Tryd.prog 74 .u64 := by unfold intB; kernel_rfl
theorem INT_131 : intB Tryd.prog 131 .u16 := by unfold intB; kernel_rfl
theorem MP_60 : mapB Tryd.prog 60 28 := ⟨3, by kernel_rfl, by kernel_rfl⟩
theorem MP_61 : mapB Tryd.prog 61 4 := ⟨3, by kernel_rfl, by kernel_rfl⟩
theorem CF_3 : calleeB Tryd.prog 3 = true := by kernel_rfl
theorem CF_4 : calleeB Tryd.prog 4 = true := by kernel_rfl
theorem CF_5 : calleeB Tryd.prog 5 = true := by kernel_rfl
theorem CF_6 : calleeB Tryd.prog 6 = true := by kernel_rfl
theorem CF_7 : calleeB Tryd.prog 7 = true := by kernel_rfl
theorem CF_8 : calleeB Tryd.prog 8 = true := by kernel_rfl
theorem CF_9 : calleeB Tryd.prog 9 = true := by kernel_rfl
theorem CF_10 : calleeB Tryd.prog 10 = true := by kernel_rfl
theorem CF_11 : calleeB Tryd.prog 11 = true := by kernel_rfl
theorem CF_12 : calleeB Tryd.prog 12 = true := by kernel_rfl
theorem CF_13 : calleeB Tryd.prog 13 = true := by kernel_rfl
theorem CF_14 : calleeB Tryd.prog 14 = true := by kernel_rfl
theorem CF_15 : calleeB Tryd.prog 15 = true := by kernel_rfl
theorem CF_16 : calleeB Tryd.prog 16 = true := by kernel_rfl
theorem CF_17 : calleeB Tryd.prog 17 = true := by kernel_rfl
theorem CF_18 : calleeB Tryd.prog 18 = true := by kernel_rfl
theorem CF_19 : calleeB Tryd.prog 19 = true := by kernel_rfl
theorem CF_20 : calleeB Tryd.prog 20 = true := by kernel_rfl
theorem CF_21 : calleeB Tryd.prog 21 = true := by kernel_rfl
theorem CF_22 : calleeB Tryd.prog 22 = true := by kernel_rfl
theorem CF_23 : calleeB Tryd.prog 23 = true := by kernel_rfl
theorem CF_24 : calleeB Tryd.prog 24 = true := by kernel_rfl
theorem CF_25 : calleeB Tryd.prog 25 = true := by kernel_rfl
theorem CF_26 : calleeB Tryd.prog 26 = true := by kernel_rfl
theorem CF_27 : calleeB Tryd.prog 27 = true := by kernel_rfl
theorem CF_28 : calleeB Tryd.prog 28 = true := by kernel_rfl
theorem CF_29 : calleeB Tryd.prog 29 = true := by kernel_rfl
theorem CF_30 : calleeB Tryd.prog 30 = true := by kernel_rfl
theorem CF_31 : calleeB Tryd.prog 31 = true := by kernel_rfl
theorem CF_32 : calleeB Tryd.prog 32 = true := by kernel_rfl
theorem CF_33 : calleeB Tryd.prog 33 = true := by kernel_rfl
theorem CF_34 : calleeB Tryd.prog 34 = true := by kernel_rfl
theorem CF_35 : calleeB Tryd.prog 35 = true := by kernel_rfl
theorem CF_36 : calleeB Tryd.prog 36 = true := by kernel_rfl
theorem CF_37 : calleeB Tryd.prog 37 = true := by kernel_rfl
theorem CF_38 : calleeB Tryd.prog 38 = true := by kernel_rfl
theorem CF_39 : calleeB Tryd.prog 39 = true := by kernel_rfl
theorem CF_40 : calleeB Tryd.prog 40 = true := by kernel_rfl
theorem CF_41 : calleeB Tryd.prog 41 = true := by kernel_rfl
theorem CF_42 : calleeB Tryd.prog 42 = true := by kernel_rfl
theorem CF_43 : calleeB Tryd.prog 43 = true := by kernel_rfl
theorem CF_44 : calleeB Tryd.prog 44 = true := by kernel_rfl
theorem CF_48 : calleeB Tryd.prog 48 = true := by kernel_rfl
theorem CF_50 : calleeB Tryd.prog 50 = true := by kernel_rfl
theorem CF_72 : calleeB Tryd.prog 72 = true := by kernel_rfl
end Go.Proofs.YthmjjdfjegjfeaaDoor
