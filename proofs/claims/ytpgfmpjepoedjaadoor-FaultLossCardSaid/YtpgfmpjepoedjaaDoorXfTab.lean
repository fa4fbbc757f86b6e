import Derived.Test.YtpgfmpjepoedjaaDoorXB
import Derived.Test.YtpgfmpjepoedjaaDoorRows
namespace Go.Proofs.YtpgfmpjepoedjaaDoor
set_option linter.unusedSimpArgs false
set_option linter.unusedVariables false
open Go.X
set_option maxRecDepth 100000

theorem FA_40_0 {K : Value → Prop} {b o : Nat} : xP Tryd.prog (sFA 40 (.pointer (some ⟨b, o, none⟩)) 0) K ↔ K (.pointer (some ⟨b, o + 0, none⟩)) := xP_FA (by kernel_rfl)
theorem FA_40_1 {K : Value → Prop} {b o : Nat} : xP Tryd.prog (sFA 40 (.pointer (some ⟨b, o, none⟩)) 1) K ↔ K (.pointer (some ⟨b, o + 1, none⟩)) := xP_FA (by kernel_rfl)
theorem FA_47_0 {K : Value → Prop} {b o : Nat} : xP Tryd.prog (sFA 47 (.pointer (some ⟨b, o, none⟩)) 0) K ↔ K (.pointer (some ⟨b, o + 0, none⟩)) := xP_FA (by kernel_rfl)
theorem FA_47_1 {K : Value → Prop} {b o : Nat} : xP Tryd.prog (sFA 47 (.pointer (some ⟨b, o, none⟩)) 1) K ↔ K (.pointer (some ⟨b, o + 1, none⟩)) := xP_FA (by kernel_rfl)
theorem FA_47_2 {K : Value → Prop} {b o : Nat} : xP Tryd.prog (sFA 47 (.pointer (some ⟨b, o, none⟩)) 2) K ↔ K (.pointer (some ⟨b, o + 2, none⟩)) := xP_FA (by kernel_rfl)
theorem ONE_3 : oneB Tryd.prog 3 = true := by kernel_rfl
theorem SZ_3 : sizeB Tryd.prog 3 1 = true := by kernel_rfl
theorem ONE_9 : oneB Tryd.prog 9 = true := by kernel_rfl
theorem SZ_9 : sizeB Tryd.prog 9 1 = true := by kernel_rfl
theorem ONE_23 : oneB Tryd.prog 23 = true := by kernel_rfl
theorem SZ_23 : sizeB Tryd.prog 23 1 = true := by kernel_rfl
theorem ONE_25 : oneB Tryd.prog 25 = true := by kernel_rfl
theorem SZ_25 : sizeB Tryd.prog 25 1 = true := by kernel_rfl
theorem ONE_55 : oneB Tryd.prog 55 = true := by kernel_rfl
theorem SZ_55 : sizeB Tryd.prog 55 1 = true := by kernel_rfl
theorem AGG_29 : aggB Tryd.prog 29 3 = true := by kernel_rfl
theorem SZ_29 : sizeB Tryd.prog 29 3 = true := by kernel_rfl
theorem AGG_40 : aggB Tryd.prog 40 2 = true := by kernel_rfl
theorem SZ_40 : sizeB Tryd.prog 40 2 = true := by kernel_rfl
theorem AGG_47 : aggB Tryd.prog 47 3 = true := by kernel_rfl
theorem SZ_47 : sizeB Tryd.prog 47 3 = true := by kernel_rfl
theorem AGG_62 : aggB Tryd.prog 62 3 = true := by kernel_rfl
theorem SZ_62 : sizeB Tryd.prog 62 3 = true := by kernel_rfl
theorem Z_9 : zeroB Tryd.prog 9 (.string ⟨#[]⟩) := by unfold zeroB; kernel_rfl
theorem Z_23 : zeroB Tryd.prog 23 (.nilIface) := by unfold zeroB; kernel_rfl
theorem Z_25 : zeroB Tryd.prog 25 (.int .i64 0) := by unfold zeroB; kernel_rfl
theorem Z_29 : zeroB Tryd.prog 29 (.agg #[.int .i64 0, .int .i64 0, .int .i64 0]) := by unfold zeroB; kernel_rfl
theorem Z_40 : zeroB Tryd.prog 40 (.agg #[.string ⟨#[]⟩, .int .i64 0]) := by unfold zeroB; kernel_rfl
theorem Z_47 : zeroB Tryd.prog 47 (.agg #[.string ⟨#[]⟩, .int .i64 0, .nilIface]) := by unfold zeroB; kernel_rfl
theorem Z_62 : zeroB Tryd.prog 62 (.agg #[.pointer none, .pointer none, .int .u64 0]) := by unfold zeroB; kernel_rfl
theorem SL_34 : sliceB Tryd.prog 34 9 = true := by kernel_rfl
theorem LEN_34 {K : Value → Prop} {a : Option Addr} {n c : Nat} : xP Tryd.prog (sB .len #[34] #[.slice a n c]) K ↔ K (.int .i64 n) := xP_len SL_34
theorem EL_34 : ElemB Tryd.prog 34 9 1 16 (.string ⟨#[]⟩) := ⟨SL_34, by kernel_rfl, by kernel_rfl, Z_9, rfl, by decide⟩
theorem SL_38 : sliceB Tryd.prog 38 40 = true := by kernel_rfl
theorem LEN_38 {K : Value → Prop} {a : Option Addr} {n c : Nat} : xP Tryd.prog (sB .len #[38] #[.slice a n c]) K ↔ K (.int .i64 n) := xP_len SL_38
theorem EL_38 : ElemB Tryd.prog 38 40 2 24 (.agg #[.string ⟨#[]⟩, .int .i64 0]) := ⟨SL_38, by kernel_rfl, by kernel_rfl, Z_40, rfl, by decide⟩
theorem SL_48 : sliceB Tryd.prog 48 47 = true := by kernel_rfl
theorem LEN_48 {K : Value → Prop} {a : Option Addr} {n c : Nat} : xP Tryd.prog (sB .len #[48] #[.slice a n c]) K ↔ K (.int .i64 n) := xP_len SL_48
theorem EL_48 : ElemB Tryd.prog 48 47 3 40 (.agg #[.string ⟨#[]⟩, .int .i64 0, .nilIface]) := ⟨SL_48, by kernel_rfl, by kernel_rfl, Z_47, rfl, by decide⟩
theorem SL_53 : sliceB Tryd.prog 53 25 = true := by kernel_rfl
theorem LEN_53 {K : Value → Prop} {a : Option Addr} {n c : Nat} : xP Tryd.prog (sB .len #[53] #[.slice a n c]) K ↔ K (.int .i64 n) := xP_len SL_53
theorem EL_53 : ElemB Tryd.prog 53 25 1 8 (.int .i64 0) := ⟨SL_53, by kernel_rfl, by kernel_rfl, Z_25, rfl, by decide⟩
theorem SL_78 : sliceB Tryd.prog 78 23 = true := by kernel_rfl
theorem LEN_78 {K : Value → Prop} {a : Option Addr} {n c : Nat} : xP Tryd.prog (sB .len #[78] #[.slice a n c]) K ↔ K (.int .i64 n) := xP_len SL_78
theorem EL_78 : ElemB Tryd.prog 78 23 1 16 (.nilIface) := ⟨SL_78, by kernel_rfl, by kernel_rfl, Z_23, rfl, by decide⟩
theorem INT_2 : intB Tryd.prog 2 .i64 := by unfold intB; kernel_rfl
theorem INT_3 : intB Tryd.prog 3 .i64 := by unfold intB; kernel_rfl
theorem INT_5 : intB Tryd.prog 5 .u8 := by unfold intB; kernel_rfl
theorem INT_12 : intB Tryd.prog 12 .u64 := by unfold intB; kernel_rfl
theorem INT_21 : intB Tryd.prog 21 .i32 := by unfold intB; kernel_rfl
theorem INT_93 : intB Tryd.prog 93 .u32 := by unfold intB; kernel_rfl
theorem INT_107 : intB Tryd.prog 107 .u16 := by unfold intB; kernel_rfl
theorem CF_3 : calleeB Tryd.prog 3 = true := by kernel_rfl
theorem CF_4 : calleeB Tryd.prog 4 = true := by kernel_rfl
theorem CF_5 : calleeB Tryd.prog 5 = true := by kernel_rfl
theorem CF_6 : calleeB Tryd.prog 6 = true := by kernel_rfl
theorem CF_7 : calleeB Tryd.prog 7 = true := by kernel_rfl
theorem CF_8 : calleeB Tryd.prog 8 = true := by kernel_rfl
theorem CF_9 : calleeB Tryd.prog 9 = true := by kernel_rfl
theorem CF_10 : calleeB Tryd.prog 10 = true := by kernel_rfl
theorem CF_11 : calleeB Tryd.prog 11 = true := by kernel_rfl
theorem CF_12 : calleeB Tryd.prog 12 = true := by kernel_rfl
theorem CF_13 : calleeB Tryd.prog 13 = true := by kernel_rfl
theorem CF_14 : calleeB Tryd.prog 14 = true := by kernel_rfl
theorem CF_15 : calleeB Tryd.prog 15 = true := by kernel_rfl
theorem CF_16 : calleeB Tryd.prog 16 = true := by kernel_rfl
theorem CF_17 : calleeB Tryd.prog 17 = true := by kernel_rfl
theorem CF_19 : calleeB Tryd.prog 19 = true := by kernel_rfl
theorem CF_23 : calleeB Tryd.prog 23 = true := by kernel_rfl
theorem CF_45 : calleeB Tryd.prog 45 = true := by kernel_rfl
theorem CF_47 : calleeB Tryd.prog 47 = true := by kernel_rfl
end Go.Proofs.YtpgfmpjepoedjaaDoor
