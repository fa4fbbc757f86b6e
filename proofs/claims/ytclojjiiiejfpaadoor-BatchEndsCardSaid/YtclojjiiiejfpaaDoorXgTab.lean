import Derived.Test.YtclojjiiiejfpaaDoorXB
import Derived.Test.YtclojjiiiejfpaaDoorRows
namespace Go.Proofs.YtclojjiiiejfpaaDoor
set_option linter.unusedSimpArgs false
set_option linter.unusedVariables false
open Go.X
set_option maxRecDepth 100000

theorem FA_23_0 {K : Value → Prop} {b o : Nat} : xP Tryd.prog (sFA 23 (.pointer (some ⟨b, o, none⟩)) 0) K ↔ K (.pointer (some ⟨b, o + 0, none⟩)) := xP_FA (by kernel_rfl)
theorem FA_23_1 {K : Value → Prop} {b o : Nat} : xP Tryd.prog (sFA 23 (.pointer (some ⟨b, o, none⟩)) 1) K ↔ K (.pointer (some ⟨b, o + 1, none⟩)) := xP_FA (by kernel_rfl)
theorem FA_23_2 {K : Value → Prop} {b o : Nat} : xP Tryd.prog (sFA 23 (.pointer (some ⟨b, o, none⟩)) 2) K ↔ K (.pointer (some ⟨b, o + 2, none⟩)) := xP_FA (by kernel_rfl)
theorem FA_23_3 {K : Value → Prop} {b o : Nat} : xP Tryd.prog (sFA 23 (.pointer (some ⟨b, o, none⟩)) 3) K ↔ K (.pointer (some ⟨b, o + 3, none⟩)) := xP_FA (by kernel_rfl)
theorem FA_23_4 {K : Value → Prop} {b o : Nat} : xP Tryd.prog (sFA 23 (.pointer (some ⟨b, o, none⟩)) 4) K ↔ K (.pointer (some ⟨b, o + 4, none⟩)) := xP_FA (by kernel_rfl)
theorem FA_32_0 {K : Value → Prop} {b o : Nat} : xP Tryd.prog (sFA 32 (.pointer (some ⟨b, o, none⟩)) 0) K ↔ K (.pointer (some ⟨b, o + 0, none⟩)) := xP_FA (by kernel_rfl)
theorem FA_32_1 {K : Value → Prop} {b o : Nat} : xP Tryd.prog (sFA 32 (.pointer (some ⟨b, o, none⟩)) 1) K ↔ K (.pointer (some ⟨b, o + 1, none⟩)) := xP_FA (by kernel_rfl)
theorem FA_32_2 {K : Value → Prop} {b o : Nat} : xP Tryd.prog (sFA 32 (.pointer (some ⟨b, o, none⟩)) 2) K ↔ K (.pointer (some ⟨b, o + 2, none⟩)) := xP_FA (by kernel_rfl)
theorem FA_63_0 {K : Value → Prop} {b o : Nat} : xP Tryd.prog (sFA 63 (.pointer (some ⟨b, o, none⟩)) 0) K ↔ K (.pointer (some ⟨b, o + 0, none⟩)) := xP_FA (by kernel_rfl)
theorem FA_63_1 {K : Value → Prop} {b o : Nat} : xP Tryd.prog (sFA 63 (.pointer (some ⟨b, o, none⟩)) 1) K ↔ K (.pointer (some ⟨b, o + 1, none⟩)) := xP_FA (by kernel_rfl)
theorem FA_63_2 {K : Value → Prop} {b o : Nat} : xP Tryd.prog (sFA 63 (.pointer (some ⟨b, o, none⟩)) 2) K ↔ K (.pointer (some ⟨b, o + 2, none⟩)) := xP_FA (by kernel_rfl)
theorem FA_63_3 {K : Value → Prop} {b o : Nat} : xP Tryd.prog (sFA 63 (.pointer (some ⟨b, o, none⟩)) 3) K ↔ K (.pointer (some ⟨b, o + 3, none⟩)) := xP_FA (by kernel_rfl)
theorem FA_80_0 {K : Value → Prop} {b o : Nat} : xP Tryd.prog (sFA 80 (.pointer (some ⟨b, o, none⟩)) 0) K ↔ K (.pointer (some ⟨b, o + 0, none⟩)) := xP_FA (by kernel_rfl)
theorem FA_80_1 {K : Value → Prop} {b o : Nat} : xP Tryd.prog (sFA 80 (.pointer (some ⟨b, o, none⟩)) 1) K ↔ K (.pointer (some ⟨b, o + 1, none⟩)) := xP_FA (by kernel_rfl)
theorem FA_80_2 {K : Value → Prop} {b o : Nat} : xP Tryd.prog (sFA 80 (.pointer (some ⟨b, o, none⟩)) 2) K ↔ K (.pointer (some ⟨b, o + 2, none⟩)) := xP_FA (by kernel_rfl)
theorem FA_85_0 {K : Value → Prop} {b o : Nat} : xP Tryd.prog (sFA 85 (.pointer (some ⟨b, o, none⟩)) 0) K ↔ K (.pointer (some ⟨b, o + 0, none⟩)) := xP_FA (by kernel_rfl)
theorem FA_85_1 {K : Value → Prop} {b o : Nat} : xP Tryd.prog (sFA 85 (.pointer (some ⟨b, o, none⟩)) 1) K ↔ K (.pointer (some ⟨b, o + 1, none⟩)) := xP_FA (by kernel_rfl)
theorem FA_85_2 {K : Value → Prop} {b o : Nat} : xP Tryd.prog (sFA 85 (.pointer (some ⟨b, o, none⟩)) 2) K ↔ K (.pointer (some ⟨b, o + 2, none⟩)) := xP_FA (by kernel_rfl)
theorem ONE_3 : oneB Tryd.prog 3 = true := by kernel_rfl
theorem SZ_3 : sizeB Tryd.prog 3 1 = true := by kernel_rfl
theorem ONE_5 : oneB Tryd.prog 5 = true := by kernel_rfl
theorem SZ_5 : sizeB Tryd.prog 5 1 = true := by kernel_rfl
theorem ONE_9 : oneB Tryd.prog 9 = true := by kernel_rfl
theorem SZ_9 : sizeB Tryd.prog 9 1 = true := by kernel_rfl
theorem ONE_25 : oneB Tryd.prog 25 = true := by kernel_rfl
theorem SZ_25 : sizeB Tryd.prog 25 1 = true := by kernel_rfl
theorem ONE_27 : oneB Tryd.prog 27 = true := by kernel_rfl
theorem SZ_27 : sizeB Tryd.prog 27 1 = true := by kernel_rfl
theorem ONE_30 : oneB Tryd.prog 30 = true := by kernel_rfl
theorem SZ_30 : sizeB Tryd.prog 30 1 = true := by kernel_rfl
theorem ONE_39 : oneB Tryd.prog 39 = true := by kernel_rfl
theorem SZ_39 : sizeB Tryd.prog 39 1 = true := by kernel_rfl
theorem ONE_113 : oneB Tryd.prog 113 = true := by kernel_rfl
theorem SZ_113 : sizeB Tryd.prog 113 1 = true := by kernel_rfl
theorem AGG_23 : aggB Tryd.prog 23 5 = true := by kernel_rfl
theorem SZ_23 : sizeB Tryd.prog 23 5 = true := by kernel_rfl
theorem AGG_32 : aggB Tryd.prog 32 3 = true := by kernel_rfl
theorem SZ_32 : sizeB Tryd.prog 32 3 = true := by kernel_rfl
theorem AGG_63 : aggB Tryd.prog 63 4 = true := by kernel_rfl
theorem SZ_63 : sizeB Tryd.prog 63 4 = true := by kernel_rfl
theorem AGG_80 : aggB Tryd.prog 80 3 = true := by kernel_rfl
theorem SZ_80 : sizeB Tryd.prog 80 3 = true := by kernel_rfl
theorem AGG_85 : aggB Tryd.prog 85 3 = true := by kernel_rfl
theorem SZ_85 : sizeB Tryd.prog 85 3 = true := by kernel_rfl
theorem AGG_110 : aggB Tryd.prog 110 3 = true := by kernel_rfl
theorem SZ_110 : sizeB Tryd.prog 110 3 = true := by kernel_rfl
theorem Z_3 : zeroB Tryd.prog 3 (.int .i64 0) := by unfold zeroB; kernel_rfl
theorem Z_5 : zeroB Tryd.prog 5 (.int .u8 0) := by unfold zeroB; kernel_rfl
theorem Z_9 : zeroB Tryd.prog 9 (.string ⟨#[]⟩) := by unfold zeroB; kernel_rfl
theorem Z_23 : zeroB Tryd.prog 23 (.agg #[.int .i64 0, .int .i64 0, .int .i64 0, .int .i64 0, .int .i64 0]) := by unfold zeroB; kernel_rfl
theorem Z_27 : zeroB Tryd.prog 27 (.nilIface) := by unfold zeroB; kernel_rfl
theorem Z_32 : zeroB Tryd.prog 32 (.agg #[.int .i64 0, .string ⟨#[]⟩, .slice none 0 0]) := by unfold zeroB; kernel_rfl
theorem Z_39 : zeroB Tryd.prog 39 (.int .i64 0) := by unfold zeroB; kernel_rfl
theorem Z_63 : zeroB Tryd.prog 63 (.agg #[.int .i64 0, .int .i64 0, .int .i64 0, .slice none 0 0]) := by unfold zeroB; kernel_rfl
theorem Z_85 : zeroB Tryd.prog 85 (.agg #[.string ⟨#[]⟩, .int .i64 0, .nilIface]) := by unfold zeroB; kernel_rfl
theorem Z_110 : zeroB Tryd.prog 110 (.agg #[.pointer none, .pointer none, .int .u64 0]) := by unfold zeroB; kernel_rfl
theorem SL_24 : sliceB Tryd.prog 24 23 = true := by kernel_rfl
theorem LEN_24 {K : Value → Prop} {a : Option Addr} {n c : Nat} : xP Tryd.prog (sB .len #[24] #[.slice a n c]) K ↔ K (.int .i64 n) := xP_len SL_24
theorem EL_24 : ElemB Tryd.prog 24 23 5 40 (.agg #[.int .i64 0, .int .i64 0, .int .i64 0, .int .i64 0, .int .i64 0]) := ⟨SL_24, by kernel_rfl, by kernel_rfl, Z_23, rfl, by decide⟩
theorem SL_25 : sliceB Tryd.prog 25 5 = true := by kernel_rfl
theorem LEN_25 {K : Value → Prop} {a : Option Addr} {n c : Nat} : xP Tryd.prog (sB .len #[25] #[.slice a n c]) K ↔ K (.int .i64 n) := xP_len SL_25
theorem EL_25 : ElemB Tryd.prog 25 5 1 1 (.int .u8 0) := ⟨SL_25, by kernel_rfl, by kernel_rfl, Z_5, rfl, by decide⟩
theorem SL_30 : sliceB Tryd.prog 30 9 = true := by kernel_rfl
theorem LEN_30 {K : Value → Prop} {a : Option Addr} {n c : Nat} : xP Tryd.prog (sB .len #[30] #[.slice a n c]) K ↔ K (.int .i64 n) := xP_len SL_30
theorem EL_30 : ElemB Tryd.prog 30 9 1 16 (.string ⟨#[]⟩) := ⟨SL_30, by kernel_rfl, by kernel_rfl, Z_9, rfl, by decide⟩
theorem SL_33 : sliceB Tryd.prog 33 32 = true := by kernel_rfl
theorem LEN_33 {K : Value → Prop} {a : Option Addr} {n c : Nat} : xP Tryd.prog (sB .len #[33] #[.slice a n c]) K ↔ K (.int .i64 n) := xP_len SL_33
theorem EL_33 : ElemB Tryd.prog 33 32 3 48 (.agg #[.int .i64 0, .string ⟨#[]⟩, .slice none 0 0]) := ⟨SL_33, by kernel_rfl, by kernel_rfl, Z_32, rfl, by decide⟩
theorem SL_58 : sliceB Tryd.prog 58 3 = true := by kernel_rfl
theorem LEN_58 {K : Value → Prop} {a : Option Addr} {n c : Nat} : xP Tryd.prog (sB .len #[58] #[.slice a n c]) K ↔ K (.int .i64 n) := xP_len SL_58
theorem EL_58 : ElemB Tryd.prog 58 3 1 8 (.int .i64 0) := ⟨SL_58, by kernel_rfl, by kernel_rfl, Z_3, rfl, by decide⟩
theorem SL_82 : sliceB Tryd.prog 82 85 = true := by kernel_rfl
theorem LEN_82 {K : Value → Prop} {a : Option Addr} {n c : Nat} : xP Tryd.prog (sB .len #[82] #[.slice a n c]) K ↔ K (.int .i64 n) := xP_len SL_82
theorem EL_82 : ElemB Tryd.prog 82 85 3 40 (.agg #[.string ⟨#[]⟩, .int .i64 0, .nilIface]) := ⟨SL_82, by kernel_rfl, by kernel_rfl, Z_85, rfl, by decide⟩
theorem SL_134 : sliceB Tryd.prog 134 27 = true := by kernel_rfl
theorem LEN_134 {K : Value → Prop} {a : Option Addr} {n c : Nat} : xP Tryd.prog (sB .len #[134] #[.slice a n c]) K ↔ K (.int .i64 n) := xP_len SL_134
theorem EL_134 : ElemB Tryd.prog 134 27 1 16 (.nilIface) := ⟨SL_134, by kernel_rfl, by kernel_rfl, Z_27, rfl, by decide⟩
theorem INT_2 : intB Tryd.prog 2 .i64 := by unfold intB; kernel_rfl
theorem INT_3 : intB Tryd.prog 3 .i64 := by unfold intB; kernel_rfl
theorem INT_5 : intB Tryd.prog 5 .u8 := by unfold intB; kernel_rfl
theorem INT_12 : intB Tryd.prog 12 .u64 := by unfold intB; kernel_rfl
theorem INT_21 : intB Tryd.prog 21 .i32 := by unfold intB; kernel_rfl
theorem INT_90 : intB Tryd.prog 90 .u64 := by unfold intB; kernel_rfl
theorem INT_92 : intB Tryd.prog 92 .u64 := by unfold intB; kernel_rfl
theorem INT_147 : intB Tryd.prog 147 .u32 := by unfold intB; kernel_rfl
theorem INT_161 : intB Tryd.prog 161 .u16 := by unfold intB; kernel_rfl
theorem CF_3 : calleeB Tryd.prog 3 = true := by kernel_rfl
theorem CF_4 : calleeB Tryd.prog 4 = true := by kernel_rfl
theorem CF_5 : calleeB Tryd.prog 5 = true := by kernel_rfl
theorem CF_6 : calleeB Tryd.prog 6 = true := by kernel_rfl
theorem CF_7 : calleeB Tryd.prog 7 = true := by kernel_rfl
theorem CF_8 : calleeB Tryd.prog 8 = true := by kernel_rfl
theorem CF_9 : calleeB Tryd.prog 9 = true := by kernel_rfl
theorem CF_10 : calleeB Tryd.prog 10 = true := by kernel_rfl
theorem CF_11 : calleeB Tryd.prog 11 = true := by kernel_rfl
theorem CF_12 : calleeB Tryd.prog 12 = true := by kernel_rfl
theorem CF_13 : calleeB Tryd.prog 13 = true := by kernel_rfl
theorem CF_14 : calleeB Tryd.prog 14 = true := by kernel_rfl
theorem CF_15 : calleeB Tryd.prog 15 = true := by kernel_rfl
theorem CF_16 : calleeB Tryd.prog 16 = true := by kernel_rfl
theorem CF_17 : calleeB Tryd.prog 17 = true := by kernel_rfl
theorem CF_18 : calleeB Tryd.prog 18 = true := by kernel_rfl
theorem CF_19 : calleeB Tryd.prog 19 = true := by kernel_rfl
theorem CF_20 : calleeB Tryd.prog 20 = true := by kernel_rfl
theorem CF_21 : calleeB Tryd.prog 21 = true := by kernel_rfl
theorem CF_22 : calleeB Tryd.prog 22 = true := by kernel_rfl
theorem CF_23 : calleeB Tryd.prog 23 = true := by kernel_rfl
theorem CF_24 : calleeB Tryd.prog 24 = true := by kernel_rfl
theorem CF_25 : calleeB Tryd.prog 25 = true := by kernel_rfl
theorem CF_26 : calleeB Tryd.prog 26 = true := by kernel_rfl
theorem CF_27 : calleeB Tryd.prog 27 = true := by kernel_rfl
theorem CF_28 : calleeB Tryd.prog 28 = true := by kernel_rfl
theorem CF_29 : calleeB Tryd.prog 29 = true := by kernel_rfl
theorem CF_30 : calleeB Tryd.prog 30 = true := by kernel_rfl
theorem CF_31 : calleeB Tryd.prog 31 = true := by kernel_rfl
theorem CF_32 : calleeB Tryd.prog 32 = true := by kernel_rfl
theorem CF_33 : calleeB Tryd.prog 33 = true := by kernel_rfl
theorem CF_34 : calleeB Tryd.prog 34 = true := by kernel_rfl
theorem CF_35 : calleeB Tryd.prog 35 = true := by kernel_rfl
theorem CF_36 : calleeB Tryd.prog 36 = true := by kernel_rfl
theorem CF_37 : calleeB Tryd.prog 37 = true := by kernel_rfl
theorem CF_38 : calleeB Tryd.prog 38 = true := by kernel_rfl
theorem CF_39 : calleeB Tryd.prog 39 = true := by kernel_rfl
theorem CF_40 : calleeB Tryd.prog 40 = true := by kernel_rfl
theorem CF_41 : calleeB Tryd.prog 41 = true := by kernel_rfl
theorem CF_42 : calleeB Tryd.prog 42 = true := by kernel_rfl
theorem CF_43 : calleeB Tryd.prog 43 = true := by kernel_rfl
theorem CF_44 : calleeB Tryd.prog 44 = true := by kernel_rfl
theorem CF_45 : calleeB Tryd.prog 45 = true := by kernel_rfl
theorem CF_46 : calleeB Tryd.prog 46 = true := by kernel_rfl
theorem CF_47 : calleeB Tryd.prog 47 = true := by kernel_rfl
theorem CF_48 : calleeB Tryd.prog 48 = true := by kernel_rfl
theorem CF_49 : calleeB Tryd.prog 49 = true := by kernel_rfl
theorem CF_50 : calleeB Tryd.prog 50 = true := by kernel_rfl
theorem CF_51 : calleeB Tryd.prog 51 = true := by kernel_rfl
theorem CF_52 : calleeB Tryd.prog 52 = true := by kernel_rfl
theorem CF_53 : calleeB Tryd.prog 53 = true := by kernel_rfl
theorem CF_54 : calleeB Tryd.prog 54 = true := by kernel_rfl
theorem CF_55 : calleeB Tryd.prog 55 = true := by kernel_rfl
theorem CF_56 : calleeB Tryd.prog 56 = true := by kernel_rfl
theorem CF_57 : calleeB Tryd.prog 57 = true := by kernel_rfl
theorem CF_58 : calleeB Tryd.prog 58 = true := by kernel_rfl
theorem CF_59 : calleeB Tryd.prog 59 = true := by kernel_rfl
theorem CF_60 : calleeB Tryd.prog 60 = true := by kernel_rfl
theorem CF_61 : calleeB Tryd.prog 61 = true := by kernel_rfl
theorem CF_62 : calleeB Tryd.prog 62 = true := by kernel_rfl
theorem CF_63 : calleeB Tryd.prog 63 = true := by kernel_rfl
theorem CF_64 : calleeB Tryd.prog 64 = true := by kernel_rfl
theorem CF_65 : calleeB Tryd.prog 65 = true := by kernel_rfl
theorem CF_66 : calleeB Tryd.prog 66 = true := by kernel_rfl
theorem CF_70 : calleeB Tryd.prog 70 = true := by kernel_rfl
theorem CF_72 : calleeB Tryd.prog 72 = true := by kernel_rfl
theorem CF_73 : calleeB Tryd.prog 73 = true := by kernel_rfl
theorem CF_74 : calleeB Tryd.prog 74 = true := by kernel_rfl
theorem CF_96 : calleeB Tryd.prog 96 = true := by kernel_rfl
end Go.Proofs.YtclojjiiiejfpaaDoor
