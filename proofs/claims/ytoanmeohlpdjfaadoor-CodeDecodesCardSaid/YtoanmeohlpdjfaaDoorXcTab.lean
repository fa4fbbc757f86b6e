import Derived.Test.YtoanmeohlpdjfaaDoorXB
import Derived.Test.YtoanmeohlpdjfaaDoorRows
namespace Go.Proofs.YtoanmeohlpdjfaaDoor
set_option linter.unusedSimpArgs false
set_option linter.unusedVariables false
open Go.X
set_option maxRecDepth 100000

theorem FA_35_0 {K : Value → Prop} {b o : Nat} : xP Tryd.prog (sFA 35 (.pointer (some ⟨b, o, none⟩)) 0) K ↔ K (.pointer (some ⟨b, o + 0, none⟩)) := xP_FA (by kernel_rfl)
theorem FA_35_1 {K : Value → Prop} {b o : Nat} : xP Tryd.prog (sFA 35 (.pointer (some ⟨b, o, none⟩)) 1) K ↔ K (.pointer (some ⟨b, o + 1, none⟩)) := xP_FA (by kernel_rfl)
theorem FA_66_0 {K : Value → Prop} {b o : Nat} : xP Tryd.prog (sFA 66 (.pointer (some ⟨b, o, none⟩)) 0) K ↔ K (.pointer (some ⟨b, o + 0, none⟩)) := xP_FA (by kernel_rfl)
theorem FA_66_1 {K : Value → Prop} {b o : Nat} : xP Tryd.prog (sFA 66 (.pointer (some ⟨b, o, none⟩)) 1) K ↔ K (.pointer (some ⟨b, o + 1, none⟩)) := xP_FA (by kernel_rfl)
theorem FA_66_2 {K : Value → Prop} {b o : Nat} : xP Tryd.prog (sFA 66 (.pointer (some ⟨b, o, none⟩)) 2) K ↔ K (.pointer (some ⟨b, o + 2, none⟩)) := xP_FA (by kernel_rfl)
theorem FA_82_0 {K : Value → Prop} {b o : Nat} : xP Tryd.prog (sFA 82 (.pointer (some ⟨b, o, none⟩)) 0) K ↔ K (.pointer (some ⟨b, o + 0, none⟩)) := xP_FA (by kernel_rfl)
theorem FA_82_1 {K : Value → Prop} {b o : Nat} : xP Tryd.prog (sFA 82 (.pointer (some ⟨b, o, none⟩)) 1) K ↔ K (.pointer (some ⟨b, o + 1, none⟩)) := xP_FA (by kernel_rfl)
theorem FA_82_2 {K : Value → Prop} {b o : Nat} : xP Tryd.prog (sFA 82 (.pointer (some ⟨b, o, none⟩)) 2) K ↔ K (.pointer (some ⟨b, o + 2, none⟩)) := xP_FA (by kernel_rfl)
theorem FA_86_0 {K : Value → Prop} {b o : Nat} : xP Tryd.prog (sFA 86 (.pointer (some ⟨b, o, none⟩)) 0) K ↔ K (.pointer (some ⟨b, o + 0, none⟩)) := xP_FA (by kernel_rfl)
theorem FA_86_1 {K : Value → Prop} {b o : Nat} : xP Tryd.prog (sFA 86 (.pointer (some ⟨b, o, none⟩)) 1) K ↔ K (.pointer (some ⟨b, o + 510, none⟩)) := xP_FA (by kernel_rfl)
theorem PT_22 : ptrB Tryd.prog 22 := by unfold ptrB; kernel_rfl
theorem ONE_3 : oneB Tryd.prog 3 = true := by kernel_rfl
theorem SZ_3 : sizeB Tryd.prog 3 1 = true := by kernel_rfl
theorem ONE_4 : oneB Tryd.prog 4 = true := by kernel_rfl
theorem SZ_4 : sizeB Tryd.prog 4 1 = true := by kernel_rfl
theorem ONE_5 : oneB Tryd.prog 5 = true := by kernel_rfl
theorem SZ_5 : sizeB Tryd.prog 5 1 = true := by kernel_rfl
theorem ONE_9 : oneB Tryd.prog 9 = true := by kernel_rfl
theorem SZ_9 : sizeB Tryd.prog 9 1 = true := by kernel_rfl
theorem ONE_24 : oneB Tryd.prog 24 = true := by kernel_rfl
theorem SZ_24 : sizeB Tryd.prog 24 1 = true := by kernel_rfl
theorem ONE_27 : oneB Tryd.prog 27 = true := by kernel_rfl
theorem SZ_27 : sizeB Tryd.prog 27 1 = true := by kernel_rfl
theorem ONE_29 : oneB Tryd.prog 29 = true := by kernel_rfl
theorem SZ_29 : sizeB Tryd.prog 29 1 = true := by kernel_rfl
theorem ONE_32 : oneB Tryd.prog 32 = true := by kernel_rfl
theorem SZ_32 : sizeB Tryd.prog 32 1 = true := by kernel_rfl
theorem ONE_63 : oneB Tryd.prog 63 = true := by kernel_rfl
theorem SZ_63 : sizeB Tryd.prog 63 1 = true := by kernel_rfl
theorem ONE_93 : oneB Tryd.prog 93 = true := by kernel_rfl
theorem SZ_93 : sizeB Tryd.prog 93 1 = true := by kernel_rfl
theorem AGG_35 : aggB Tryd.prog 35 2 = true := by kernel_rfl
theorem SZ_35 : sizeB Tryd.prog 35 2 = true := by kernel_rfl
theorem AGG_49 : aggB Tryd.prog 49 8 = true := by kernel_rfl
theorem SZ_49 : sizeB Tryd.prog 49 8 = true := by kernel_rfl
theorem AGG_66 : aggB Tryd.prog 66 3 = true := by kernel_rfl
theorem SZ_66 : sizeB Tryd.prog 66 3 = true := by kernel_rfl
theorem AGG_82 : aggB Tryd.prog 82 3 = true := by kernel_rfl
theorem SZ_82 : sizeB Tryd.prog 82 3 = true := by kernel_rfl
theorem AGG_86 : aggB Tryd.prog 86 766 = true := by kernel_rfl
theorem SZ_86 : sizeB Tryd.prog 86 766 = true := by kernel_rfl
theorem AGG_90 : aggB Tryd.prog 90 3 = true := by kernel_rfl
theorem SZ_90 : sizeB Tryd.prog 90 3 = true := by kernel_rfl
theorem AGG_102 : aggB Tryd.prog 102 8 = true := by kernel_rfl
theorem SZ_102 : sizeB Tryd.prog 102 8 = true := by kernel_rfl
theorem Z_3 : zeroB Tryd.prog 3 (.int .i64 0) := by unfold zeroB; kernel_rfl
theorem Z_5 : zeroB Tryd.prog 5 (.int .u8 0) := by unfold zeroB; kernel_rfl
theorem Z_24 : zeroB Tryd.prog 24 (.nilIface) := by unfold zeroB; kernel_rfl
theorem Z_27 : zeroB Tryd.prog 27 (.int .i64 0) := by unfold zeroB; kernel_rfl
theorem Z_32 : zeroB Tryd.prog 32 (.slice none 0 0) := by unfold zeroB; kernel_rfl
theorem Z_35 : zeroB Tryd.prog 35 (.agg #[.int .i64 0, .slice none 0 0]) := by unfold zeroB; kernel_rfl
theorem Z_49 : zeroB Tryd.prog 49 (.agg #[.bool false, .bool false, .bool false, .bool false, .bool false, .bool false, .bool false, .bool false]) := by unfold zeroB; kernel_rfl
theorem Z_82 : zeroB Tryd.prog 82 (.agg #[.string ⟨#[]⟩, .int .i64 0, .nilIface]) := by unfold zeroB; kernel_rfl
theorem Z_90 : zeroB Tryd.prog 90 (.agg #[.pointer none, .pointer none, .int .u64 0]) := by unfold zeroB; kernel_rfl
theorem Z_102 : zeroB Tryd.prog 102 (.agg #[.int .i64 0, .int .i64 0, .int .i64 0, .int .i64 0, .int .i64 0, .int .i64 0, .int .i64 0, .int .i64 0]) := by unfold zeroB; kernel_rfl
theorem SL_29 : sliceB Tryd.prog 29 32 = true := by kernel_rfl
theorem LEN_29 {K : Value → Prop} {a : Option Addr} {n c : Nat} : xP Tryd.prog (sB .len #[29] #[.slice a n c]) K ↔ K (.int .i64 n) := xP_len SL_29
theorem EL_29 : ElemB Tryd.prog 29 32 1 24 (.slice none 0 0) := ⟨SL_29, by kernel_rfl, by kernel_rfl, Z_32, rfl, by decide⟩
theorem SL_32 : sliceB Tryd.prog 32 5 = true := by kernel_rfl
theorem LEN_32 {K : Value → Prop} {a : Option Addr} {n c : Nat} : xP Tryd.prog (sB .len #[32] #[.slice a n c]) K ↔ K (.int .i64 n) := xP_len SL_32
theorem EL_32 : ElemB Tryd.prog 32 5 1 1 (.int .u8 0) := ⟨SL_32, by kernel_rfl, by kernel_rfl, Z_5, rfl, by decide⟩
theorem SL_47 : sliceB Tryd.prog 47 3 = true := by kernel_rfl
theorem LEN_47 {K : Value → Prop} {a : Option Addr} {n c : Nat} : xP Tryd.prog (sB .len #[47] #[.slice a n c]) K ↔ K (.int .i64 n) := xP_len SL_47
theorem EL_47 : ElemB Tryd.prog 47 3 1 8 (.int .i64 0) := ⟨SL_47, by kernel_rfl, by kernel_rfl, Z_3, rfl, by decide⟩
theorem SL_48 : sliceB Tryd.prog 48 35 = true := by kernel_rfl
theorem LEN_48 {K : Value → Prop} {a : Option Addr} {n c : Nat} : xP Tryd.prog (sB .len #[48] #[.slice a n c]) K ↔ K (.int .i64 n) := xP_len SL_48
theorem EL_48 : ElemB Tryd.prog 48 35 2 32 (.agg #[.int .i64 0, .slice none 0 0]) := ⟨SL_48, by kernel_rfl, by kernel_rfl, Z_35, rfl, by decide⟩
theorem SL_79 : sliceB Tryd.prog 79 82 = true := by kernel_rfl
theorem LEN_79 {K : Value → Prop} {a : Option Addr} {n c : Nat} : xP Tryd.prog (sB .len #[79] #[.slice a n c]) K ↔ K (.int .i64 n) := xP_len SL_79
theorem EL_79 : ElemB Tryd.prog 79 82 3 40 (.agg #[.string ⟨#[]⟩, .int .i64 0, .nilIface]) := ⟨SL_79, by kernel_rfl, by kernel_rfl, Z_82, rfl, by decide⟩
theorem SL_116 : sliceB Tryd.prog 116 24 = true := by kernel_rfl
theorem LEN_116 {K : Value → Prop} {a : Option Addr} {n c : Nat} : xP Tryd.prog (sB .len #[116] #[.slice a n c]) K ↔ K (.int .i64 n) := xP_len SL_116
theorem EL_116 : ElemB Tryd.prog 116 24 1 16 (.nilIface) := ⟨SL_116, by kernel_rfl, by kernel_rfl, Z_24, rfl, by decide⟩
theorem INT_2 : intB Tryd.prog 2 .i64 := by unfold intB; kernel_rfl
theorem INT_3 : intB Tryd.prog 3 .i64 := by unfold intB; kernel_rfl
theorem INT_5 : intB Tryd.prog 5 .u8 := by unfold intB; kernel_rfl
theorem INT_12 : intB Tryd.prog 12 .u64 := by unfold intB; kernel_rfl
theorem INT_21 : intB Tryd.prog 21 .i32 := by unfold intB; kernel_rfl
theorem INT_75 : intB Tryd.prog 75 .u64 := by unfold intB; kernel_rfl
theorem INT_129 : intB Tryd.prog 129 .u32 := by unfold intB; kernel_rfl
theorem INT_144 : intB Tryd.prog 144 .u16 := by unfold intB; kernel_rfl
theorem CF_3 : calleeB Tryd.prog 3 = true := by kernel_rfl
theorem CF_4 : calleeB Tryd.prog 4 = true := by kernel_rfl
theorem CF_5 : calleeB Tryd.prog 5 = true := by kernel_rfl
theorem CF_6 : calleeB Tryd.prog 6 = true := by kernel_rfl
theorem CF_7 : calleeB Tryd.prog 7 = true := by kernel_rfl
theorem CF_8 : calleeB Tryd.prog 8 = true := by kernel_rfl
theorem CF_9 : calleeB Tryd.prog 9 = true := by kernel_rfl
theorem CF_10 : calleeB Tryd.prog 10 = true := by kernel_rfl
theorem CF_11 : calleeB Tryd.prog 11 = true := by kernel_rfl
theorem CF_12 : calleeB Tryd.prog 12 = true := by kernel_rfl
theorem CF_13 : calleeB Tryd.prog 13 = true := by kernel_rfl
theorem CF_14 : calleeB Tryd.prog 14 = true := by kernel_rfl
theorem CF_15 : calleeB Tryd.prog 15 = true := by kernel_rfl
theorem CF_16 : calleeB Tryd.prog 16 = true := by kernel_rfl
theorem CF_17 : calleeB Tryd.prog 17 = true := by kernel_rfl
theorem CF_18 : calleeB Tryd.prog 18 = true := by kernel_rfl
theorem CF_19 : calleeB Tryd.prog 19 = true := by kernel_rfl
theorem CF_20 : calleeB Tryd.prog 20 = true := by kernel_rfl
theorem CF_21 : calleeB Tryd.prog 21 = true := by kernel_rfl
theorem CF_22 : calleeB Tryd.prog 22 = true := by kernel_rfl
theorem CF_23 : calleeB Tryd.prog 23 = true := by kernel_rfl
theorem CF_24 : calleeB Tryd.prog 24 = true := by kernel_rfl
theorem CF_25 : calleeB Tryd.prog 25 = true := by kernel_rfl
theorem CF_26 : calleeB Tryd.prog 26 = true := by kernel_rfl
theorem CF_27 : calleeB Tryd.prog 27 = true := by kernel_rfl
theorem CF_28 : calleeB Tryd.prog 28 = true := by kernel_rfl
theorem CF_29 : calleeB Tryd.prog 29 = true := by kernel_rfl
theorem CF_30 : calleeB Tryd.prog 30 = true := by kernel_rfl
theorem CF_31 : calleeB Tryd.prog 31 = true := by kernel_rfl
theorem CF_32 : calleeB Tryd.prog 32 = true := by kernel_rfl
theorem CF_33 : calleeB Tryd.prog 33 = true := by kernel_rfl
theorem CF_34 : calleeB Tryd.prog 34 = true := by kernel_rfl
theorem CF_35 : calleeB Tryd.prog 35 = true := by kernel_rfl
theorem CF_36 : calleeB Tryd.prog 36 = true := by kernel_rfl
theorem CF_37 : calleeB Tryd.prog 37 = true := by kernel_rfl
theorem CF_38 : calleeB Tryd.prog 38 = true := by kernel_rfl
theorem CF_39 : calleeB Tryd.prog 39 = true := by kernel_rfl
theorem CF_40 : calleeB Tryd.prog 40 = true := by kernel_rfl
theorem CF_44 : calleeB Tryd.prog 44 = true := by kernel_rfl
theorem CF_46 : calleeB Tryd.prog 46 = true := by kernel_rfl
theorem CF_47 : calleeB Tryd.prog 47 = true := by kernel_rfl
theorem CF_48 : calleeB Tryd.prog 48 = true := by kernel_rfl
theorem CF_49 : calleeB Tryd.prog 49 = true := by kernel_rfl
theorem CF_50 : calleeB Tryd.prog 50 = true := by kernel_rfl
theorem CF_73 : calleeB Tryd.prog 73 = true := by kernel_rfl
end Go.Proofs.YtoanmeohlpdjfaaDoor
