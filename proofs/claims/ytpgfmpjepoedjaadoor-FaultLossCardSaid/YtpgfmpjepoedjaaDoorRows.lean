/-
  NARROWER THAN 'FOR EVERY INPUT', by the rows' own cells (each row's printed sentence says how): FaultRuns: laid · FaultNone: laid · FaultInner: laid · FaultLoss: laid.
  DERIVED. THE GIVEN ROWS OF THIS SEAT. 4 by the template 'for every input the law returns true; each argument reads behind the call as it read before'; 0 by the template 'total and deterministic' (their statements: YtpgfmpjepoedjaaDoorTotals.lean).
  GIVEN WITH THE SEED: the statements are not yours to turn. If you find one false, say at which input.
  Laid BY PROGRAM, IN A SANDBOX (cutbox-rows.mjs): the forced cells as the released guide's own fill.sh prints them over the translation dc43408dbd1c19d5… (all of the seat's roots in one cut). By AI agents, Wed Nov 11 2026. No macro, syntax, notation, axiom, sorry.
-/
import Derived.Test.YtpgfmpjepoedjaaDoorChecked
import GoSem.Claim
import GoSem.ClaimJoined
import GoSem.ClaimMapViews
import Derived.JoinedTies
import Derived.KernelRfl
namespace Go.Proofs.YtpgfmpjepoedjaaDoor
/- THE CELL 'sum', in the pinned program and in every row, IS THE sha256 OF THE DUMP (.gsa) THAT YtpgfmpjepoedjaaDoorProg.lean LOADS. Nothing in Lean hashes anything: it is a label: what it is worth is what the hold of that sum in a sandbox is worth. -/
noncomputable def Tryd.pinned : Pinned := { name := "ytpgfmpjepoedjaadoor", sum := "dc43408dbd1c19d5abe025a915b7eafbd30618bc2192261249f38a7da196a60d", checked := Tryd.checked }
namespace Rows
def none {H : Type} : Left H := { results := [], args := [] }

/- WHAT THE LISTED PACKAGE-LEVEL VARIABLES READ AS WHEN THE CALL BEGINS. Each datum BY PROGRAM (the guide's laid-datum.mjs) off the statement by which the dump's own 'gosem.cut.vars' lays the variable. In a bare row this is a premise. The card (YtpgfmpjepoedjaaDoorCards.lean) ties it to the program's text. -/
def laid_errors_errorType {H : Type} : DataW H := .iface "internal/reflectlite.rtype" (.agg [.ptr (.lit (.string [101, 114, 114, 111, 114]))])

/-- 'stavelaw1.FaultRuns': WHATEVER THE INPUT: true; the input reads as it did. -/
def faultRunsSpec : ChangeSpec := { name := "faultRuns", fn := fun _ => fun
  | [] => { results := [.lit (.bool true)], args := [] }
  | _ => none }
def faultRunsRow : OpenClaim := { program := "ytpgfmpjepoedjaadoor", sum := "dc43408dbd1c19d5abe025a915b7eafbd30618bc2192261249f38a7da196a60d", func := "stave/stavelaw1.FaultRuns", spec := "faultRuns", inPlace := ["internal/reflectlite.ValueOf", "(internal/reflectlite.Value).Type", "(internal/reflectlite.Value).IsNil", "internal/reflectlite.TypeOf", "(internal/reflectlite.Value).Elem", "(internal/reflectlite.Value).Set"], unfollowed := true, recurses := true, named := ["errors.errorType"], apart := false, laid := [("errors.errorType", laid_errors_errorType)] }
def FaultRunsSaid : Prop := faultRunsRow.holds Tryd.pinned (OpenSpec.ofChange faultRunsSpec)

/-- ITS FALSE NEIGHBOUR: 'it returns false'. Refute it at one input. -/
def faultRunsWrong : ChangeSpec := { name := "faultRuns", fn := fun _ => fun
  | [] => { results := [.lit (.bool false)], args := [] }
  | _ => none }
def FaultRunsWrongFalsely : Prop := faultRunsRow.holds Tryd.pinned (OpenSpec.ofChange faultRunsWrong)

/-- 'stavelaw1.FaultNone': WHATEVER THE INPUT: true; the input reads as it did. -/
def faultNoneSpec : ChangeSpec := { name := "faultNone", fn := fun _ => fun
  | [d1, d2] => { results := [.lit (.bool true)], args := [d1, d2] }
  | _ => none }
def faultNoneRow : OpenClaim := { program := "ytpgfmpjepoedjaadoor", sum := "dc43408dbd1c19d5abe025a915b7eafbd30618bc2192261249f38a7da196a60d", func := "stave/stavelaw1.FaultNone", spec := "faultNone", inPlace := ["internal/reflectlite.ValueOf", "(internal/reflectlite.Value).Type", "(internal/reflectlite.Value).IsNil", "internal/reflectlite.TypeOf", "(internal/reflectlite.Value).Elem", "(internal/reflectlite.Value).Set"], unfollowed := true, recurses := true, named := ["errors.errorType"], apart := false, laid := [("errors.errorType", laid_errors_errorType)] }
def FaultNoneSaid : Prop := faultNoneRow.holds Tryd.pinned (OpenSpec.ofChange faultNoneSpec)

/-- ITS FALSE NEIGHBOUR: 'it returns false'. Refute it at one input. -/
def faultNoneWrong : ChangeSpec := { name := "faultNone", fn := fun _ => fun
  | [d1, d2] => { results := [.lit (.bool false)], args := [d1, d2] }
  | _ => none }
def FaultNoneWrongFalsely : Prop := faultNoneRow.holds Tryd.pinned (OpenSpec.ofChange faultNoneWrong)

/-- 'stavelaw1.FaultInner': WHATEVER THE INPUT: true; the input reads as it did. -/
def faultInnerSpec : ChangeSpec := { name := "faultInner", fn := fun _ => fun
  | [d1, d2, d3, d4] => { results := [.lit (.bool true)], args := [d1, d2, d3, d4] }
  | _ => none }
def faultInnerRow : OpenClaim := { program := "ytpgfmpjepoedjaadoor", sum := "dc43408dbd1c19d5abe025a915b7eafbd30618bc2192261249f38a7da196a60d", func := "stave/stavelaw1.FaultInner", spec := "faultInner", inPlace := ["internal/reflectlite.ValueOf", "(internal/reflectlite.Value).Type", "(internal/reflectlite.Value).IsNil", "internal/reflectlite.TypeOf", "(internal/reflectlite.Value).Elem", "(internal/reflectlite.Value).Set"], unfollowed := true, recurses := true, named := ["errors.errorType"], apart := false, laid := [("errors.errorType", laid_errors_errorType)] }
def FaultInnerSaid : Prop := faultInnerRow.holds Tryd.pinned (OpenSpec.ofChange faultInnerSpec)

/-- ITS FALSE NEIGHBOUR: 'it returns false'. Refute it at one input. -/
def faultInnerWrong : ChangeSpec := { name := "faultInner", fn := fun _ => fun
  | [d1, d2, d3, d4] => { results := [.lit (.bool false)], args := [d1, d2, d3, d4] }
  | _ => none }
def FaultInnerWrongFalsely : Prop := faultInnerRow.holds Tryd.pinned (OpenSpec.ofChange faultInnerWrong)

/-- 'stavelaw1.FaultLoss': WHATEVER THE INPUT: true; the input reads as it did. -/
def faultLossSpec : ChangeSpec := { name := "faultLoss", fn := fun _ => fun
  | [d1, d2, d3, d4] => { results := [.lit (.bool true)], args := [d1, d2, d3, d4] }
  | _ => none }
def faultLossRow : OpenClaim := { program := "ytpgfmpjepoedjaadoor", sum := "dc43408dbd1c19d5abe025a915b7eafbd30618bc2192261249f38a7da196a60d", func := "stave/stavelaw1.FaultLoss", spec := "faultLoss", inPlace := ["internal/reflectlite.ValueOf", "(internal/reflectlite.Value).Type", "(internal/reflectlite.Value).IsNil", "internal/reflectlite.TypeOf", "(internal/reflectlite.Value).Elem", "(internal/reflectlite.Value).Set"], unfollowed := true, recurses := true, named := ["errors.errorType"], apart := false, laid := [("errors.errorType", laid_errors_errorType)] }
def FaultLossSaid : Prop := faultLossRow.holds Tryd.pinned (OpenSpec.ofChange faultLossSpec)

/-- ITS FALSE NEIGHBOUR: 'it returns false'. Refute it at one input. -/
def faultLossWrong : ChangeSpec := { name := "faultLoss", fn := fun _ => fun
  | [d1, d2, d3, d4] => { results := [.lit (.bool false)], args := [d1, d2, d3, d4] }
  | _ => none }
def FaultLossWrongFalsely : Prop := faultLossRow.holds Tryd.pinned (OpenSpec.ofChange faultLossWrong)

/- THE SECOND FORM. 'bulk': how many values and letters a reading holds, each counted each time it is reached (what is shared counts as often as it is met; a slice's spare places count too). A statement '..UptoSaid' is the law's where the arguments, and the package variables that the reading takes, are together of bulk at most 1048576: NARROWER than '..Said'. Prove '..Said' where nothing that the law and all that it calls make is longer than what came in: it says more and counts as full. Else prove '..UptoSaid'. A law counts once. -/
mutual
def uptoBulk {H : Type} : DataW H → Nat
  | .lit (.string bytes) => bytes.length + 1
  | .lit _ => 1
  | .nil => 1
  | .ptr d => uptoBulk d + 1
  | .slice elems spare => uptoBulkAll elems + uptoBulkAll spare + 1
  | .agg parts => uptoBulkAll parts + 1
  | .iface _ d => uptoBulk d + 1
  | .map entries => uptoBulkEntries entries + 1
  | .held _ => 1
def uptoBulkAll {H : Type} : List (DataW H) → Nat
  | [] => 0
  | d :: r => uptoBulk d + uptoBulkAll r
def uptoBulkEntries {H : Type} : List (Lit × DataW H) → Nat
  | [] => 0
  | x :: r => uptoBulkEntry x + uptoBulkEntries r
def uptoBulkEntry {H : Type} : Lit × DataW H → Nat
  | (.string bytes, d) => bytes.length + uptoBulk d + 1
  | (_, d) => uptoBulk d + 1
 end
def uptoSmall : (H : Type) → List (DataW H) → Bool := fun _ ds => decide (uptoBulkAll ds ≤ 1048576)
def OpenSpec.upto (s : _root_.Go.ChangeSpec) : _root_.Go.OpenSpec := { _root_.Go.OpenSpec.ofChange s with cond := some uptoSmall }

/-- 'stavelaw1.FaultRuns', WHERE WHAT IT READS IS OF BULK AT MOST 1048576: true; the input reads as it did. -/
def faultRunsUptoRow : OpenClaim := { program := "ytpgfmpjepoedjaadoor", sum := "dc43408dbd1c19d5abe025a915b7eafbd30618bc2192261249f38a7da196a60d", func := "stave/stavelaw1.FaultRuns", spec := "faultRuns", inPlace := ["internal/reflectlite.ValueOf", "(internal/reflectlite.Value).Type", "(internal/reflectlite.Value).IsNil", "internal/reflectlite.TypeOf", "(internal/reflectlite.Value).Elem", "(internal/reflectlite.Value).Set"], unfollowed := true, recurses := true, named := ["errors.errorType"], apart := false, laid := [("errors.errorType", laid_errors_errorType)], narrowed := true }
def FaultRunsUptoSaid : Prop := faultRunsUptoRow.holds Tryd.pinned (OpenSpec.upto faultRunsSpec)

/-- 'stavelaw1.FaultNone', WHERE WHAT IT READS IS OF BULK AT MOST 1048576: true; the input reads as it did. -/
def faultNoneUptoRow : OpenClaim := { program := "ytpgfmpjepoedjaadoor", sum := "dc43408dbd1c19d5abe025a915b7eafbd30618bc2192261249f38a7da196a60d", func := "stave/stavelaw1.FaultNone", spec := "faultNone", inPlace := ["internal/reflectlite.ValueOf", "(internal/reflectlite.Value).Type", "(internal/reflectlite.Value).IsNil", "internal/reflectlite.TypeOf", "(internal/reflectlite.Value).Elem", "(internal/reflectlite.Value).Set"], unfollowed := true, recurses := true, named := ["errors.errorType"], apart := false, laid := [("errors.errorType", laid_errors_errorType)], narrowed := true }
def FaultNoneUptoSaid : Prop := faultNoneUptoRow.holds Tryd.pinned (OpenSpec.upto faultNoneSpec)

/-- 'stavelaw1.FaultInner', WHERE WHAT IT READS IS OF BULK AT MOST 1048576: true; the input reads as it did. -/
def faultInnerUptoRow : OpenClaim := { program := "ytpgfmpjepoedjaadoor", sum := "dc43408dbd1c19d5abe025a915b7eafbd30618bc2192261249f38a7da196a60d", func := "stave/stavelaw1.FaultInner", spec := "faultInner", inPlace := ["internal/reflectlite.ValueOf", "(internal/reflectlite.Value).Type", "(internal/reflectlite.Value).IsNil", "internal/reflectlite.TypeOf", "(internal/reflectlite.Value).Elem", "(internal/reflectlite.Value).Set"], unfollowed := true, recurses := true, named := ["errors.errorType"], apart := false, laid := [("errors.errorType", laid_errors_errorType)], narrowed := true }
def FaultInnerUptoSaid : Prop := faultInnerUptoRow.holds Tryd.pinned (OpenSpec.upto faultInnerSpec)

/-- 'stavelaw1.FaultLoss', WHERE WHAT IT READS IS OF BULK AT MOST 1048576: true; the input reads as it did. -/
def faultLossUptoRow : OpenClaim := { program := "ytpgfmpjepoedjaadoor", sum := "dc43408dbd1c19d5abe025a915b7eafbd30618bc2192261249f38a7da196a60d", func := "stave/stavelaw1.FaultLoss", spec := "faultLoss", inPlace := ["internal/reflectlite.ValueOf", "(internal/reflectlite.Value).Type", "(internal/reflectlite.Value).IsNil", "internal/reflectlite.TypeOf", "(internal/reflectlite.Value).Elem", "(internal/reflectlite.Value).Set"], unfollowed := true, recurses := true, named := ["errors.errorType"], apart := false, laid := [("errors.errorType", laid_errors_errorType)], narrowed := true }
def FaultLossUptoSaid : Prop := faultLossUptoRow.holds Tryd.pinned (OpenSpec.upto faultLossSpec)

end Rows
end Go.Proofs.YtpgfmpjepoedjaaDoor
