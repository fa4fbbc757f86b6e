/-
  NARROWER THAN 'FOR EVERY INPUT', by the rows' own cells (each row's printed sentence says how): FaultRuns: laid · FaultNone: laid · FaultInner: laid · FaultLoss: laid · PlogRuns: laid · PlogEnd: laid · PlogRefuses: laid · PlogTimes: laid · PlogGapless: laid · PlogTrims: laid · PlogPlays: laid.
  DERIVED. THE GIVEN ROWS OF THIS SEAT. 11 by the template 'for every input the law returns true; each argument reads behind the call as it read before'; 0 by the template 'total and deterministic' (their statements: YtjajjblppogfoaaDoorTotals.lean).
  GIVEN WITH THE SEED: the statements are not yours to turn. If you find one false, say at which input.
  Laid BY PROGRAM, IN A SANDBOX (cutbox-rows.mjs): the forced cells as the released guide's own fill.sh prints them over the translation 6a6792c7b1fc4b0f… (all of the seat's roots in one cut). By AI agents, Wed Nov 11 2026. No macro, syntax, notation, axiom, sorry.
-/
import Derived.Test.YtjajjblppogfoaaDoorChecked
import GoSem.Claim
import GoSem.ClaimJoined
import GoSem.ClaimMapViews
import Derived.JoinedTies
import Derived.KernelRfl
namespace Go.Proofs.YtjajjblppogfoaaDoor
/- THE CELL 'sum', in the pinned program and in every row, IS THE sha256 OF THE DUMP (.gsa) THAT YtjajjblppogfoaaDoorProg.lean LOADS. Nothing in Lean hashes anything: it is a label: what it is worth is what the hold of that sum in a sandbox is worth. -/
noncomputable def Tryd.pinned : Pinned := { name := "ytjajjblppogfoaadoor", sum := "6a6792c7b1fc4b0f8f82702dd9d99287bad63fb85a448a944a201aff280345c9", checked := Tryd.checked }
namespace Rows
def none {H : Type} : Left H := { results := [], args := [] }

/- WHAT THE LISTED PACKAGE-LEVEL VARIABLES READ AS WHEN THE CALL BEGINS. Each datum BY PROGRAM (the guide's laid-datum.mjs) off the statement by which the dump's own 'gosem.cut.vars' lays the variable. In a bare row this is a premise. The card (YtjajjblppogfoaaDoorCards.lean) ties it to the program's text. -/
def laid_errors_errorType {H : Type} : DataW H := .iface "internal/reflectlite.rtype" (.agg [.ptr (.lit (.string [101, 114, 114, 111, 114]))])

/-- 'stavelaw1.FaultRuns': WHATEVER THE INPUT: true; the input reads as it did. -/
def faultRunsSpec : ChangeSpec := { name := "faultRuns", fn := fun _ => fun
  | [] => { results := [.lit (.bool true)], args := [] }
  | _ => none }
def faultRunsRow : OpenClaim := { program := "ytjajjblppogfoaadoor", sum := "6a6792c7b1fc4b0f8f82702dd9d99287bad63fb85a448a944a201aff280345c9", func := "stave/stavelaw1.FaultRuns", spec := "faultRuns", inPlace := ["internal/reflectlite.ValueOf", "(internal/reflectlite.Value).Type", "(internal/reflectlite.Value).IsNil", "internal/reflectlite.TypeOf", "(internal/reflectlite.Value).Elem", "(internal/reflectlite.Value).Set"], unfollowed := true, recurses := true, named := ["errors.errorType"], apart := false, laid := [("errors.errorType", laid_errors_errorType)] }
def FaultRunsSaid : Prop := faultRunsRow.holds Tryd.pinned (OpenSpec.ofChange faultRunsSpec)

/-- ITS FALSE NEIGHBOUR: 'it returns false'. Refute it at one input. -/
def faultRunsWrong : ChangeSpec := { name := "faultRuns", fn := fun _ => fun
  | [] => { results := [.lit (.bool false)], args := [] }
  | _ => none }
def FaultRunsWrongFalsely : Prop := faultRunsRow.holds Tryd.pinned (OpenSpec.ofChange faultRunsWrong)

/-- 'stavelaw1.FaultNone': WHATEVER THE INPUT: true; the input reads as it did. -/
def faultNoneSpec : ChangeSpec := { name := "faultNone", fn := fun _ => fun
  | [d1, d2] => { results := [.lit (.bool true)], args := [d1, d2] }
  | _ => none }
def faultNoneRow : OpenClaim := { program := "ytjajjblppogfoaadoor", sum := "6a6792c7b1fc4b0f8f82702dd9d99287bad63fb85a448a944a201aff280345c9", func := "stave/stavelaw1.FaultNone", spec := "faultNone", inPlace := ["internal/reflectlite.ValueOf", "(internal/reflectlite.Value).Type", "(internal/reflectlite.Value).IsNil", "internal/reflectlite.TypeOf", "(internal/reflectlite.Value).Elem", "(internal/reflectlite.Value).Set"], unfollowed := true, recurses := true, named := ["errors.errorType"], apart := false, laid := [("errors.errorType", laid_errors_errorType)] }
def FaultNoneSaid : Prop := faultNoneRow.holds Tryd.pinned (OpenSpec.ofChange faultNoneSpec)

/-- ITS FALSE NEIGHBOUR: 'it returns false'. Refute it at one input. -/
def faultNoneWrong : ChangeSpec := { name := "faultNone", fn := fun _ => fun
  | [d1, d2] => { results := [.lit (.bool false)], args := [d1, d2] }
  | _ => none }
def FaultNoneWrongFalsely : Prop := faultNoneRow.holds Tryd.pinned (OpenSpec.ofChange faultNoneWrong)

/-- 'stavelaw1.FaultInner': WHATEVER THE INPUT: true; the input reads as it did. -/
def faultInnerSpec : ChangeSpec := { name := "faultInner", fn := fun _ => fun
  | [d1, d2, d3, d4] => { results := [.lit (.bool true)], args := [d1, d2, d3, d4] }
  | _ => none }
def faultInnerRow : OpenClaim := { program := "ytjajjblppogfoaadoor", sum := "6a6792c7b1fc4b0f8f82702dd9d99287bad63fb85a448a944a201aff280345c9", func := "stave/stavelaw1.FaultInner", spec := "faultInner", inPlace := ["internal/reflectlite.ValueOf", "(internal/reflectlite.Value).Type", "(internal/reflectlite.Value).IsNil", "internal/reflectlite.TypeOf", "(internal/reflectlite.Value).Elem", "(internal/reflectlite.Value).Set"], unfollowed := true, recurses := true, named := ["errors.errorType"], apart := false, laid := [("errors.errorType", laid_errors_errorType)] }
def FaultInnerSaid : Prop := faultInnerRow.holds Tryd.pinned (OpenSpec.ofChange faultInnerSpec)

/-- ITS FALSE NEIGHBOUR: 'it returns false'. Refute it at one input. -/
def faultInnerWrong : ChangeSpec := { name := "faultInner", fn := fun _ => fun
  | [d1, d2, d3, d4] => { results := [.lit (.bool false)], args := [d1, d2, d3, d4] }
  | _ => none }
def FaultInnerWrongFalsely : Prop := faultInnerRow.holds Tryd.pinned (OpenSpec.ofChange faultInnerWrong)

/-- 'stavelaw1.FaultLoss': WHATEVER THE INPUT: true; the input reads as it did. -/
def faultLossSpec : ChangeSpec := { name := "faultLoss", fn := fun _ => fun
  | [d1, d2, d3, d4] => { results := [.lit (.bool true)], args := [d1, d2, d3, d4] }
  | _ => none }
def faultLossRow : OpenClaim := { program := "ytjajjblppogfoaadoor", sum := "6a6792c7b1fc4b0f8f82702dd9d99287bad63fb85a448a944a201aff280345c9", func := "stave/stavelaw1.FaultLoss", spec := "faultLoss", inPlace := ["internal/reflectlite.ValueOf", "(internal/reflectlite.Value).Type", "(internal/reflectlite.Value).IsNil", "internal/reflectlite.TypeOf", "(internal/reflectlite.Value).Elem", "(internal/reflectlite.Value).Set"], unfollowed := true, recurses := true, named := ["errors.errorType"], apart := false, laid := [("errors.errorType", laid_errors_errorType)] }
def FaultLossSaid : Prop := faultLossRow.holds Tryd.pinned (OpenSpec.ofChange faultLossSpec)

/-- ITS FALSE NEIGHBOUR: 'it returns false'. Refute it at one input. -/
def faultLossWrong : ChangeSpec := { name := "faultLoss", fn := fun _ => fun
  | [d1, d2, d3, d4] => { results := [.lit (.bool false)], args := [d1, d2, d3, d4] }
  | _ => none }
def FaultLossWrongFalsely : Prop := faultLossRow.holds Tryd.pinned (OpenSpec.ofChange faultLossWrong)

/-- 'stavelaw17.PlogRuns': WHATEVER THE INPUT: true; the input reads as it did. -/
def plogRunsSpec : ChangeSpec := { name := "plogRuns", fn := fun _ => fun
  | [] => { results := [.lit (.bool true)], args := [] }
  | _ => none }
def plogRunsRow : OpenClaim := { program := "ytjajjblppogfoaadoor", sum := "6a6792c7b1fc4b0f8f82702dd9d99287bad63fb85a448a944a201aff280345c9", func := "stave/stavelaw17.PlogRuns", spec := "plogRuns", inPlace := ["internal/reflectlite.ValueOf", "(internal/reflectlite.Value).Type", "(internal/reflectlite.Value).IsNil", "internal/reflectlite.TypeOf", "(internal/reflectlite.Value).Elem", "(internal/reflectlite.Value).Set"], unfollowed := true, recurses := true, named := ["errors.errorType"], apart := false, laid := [("errors.errorType", laid_errors_errorType)] }
def PlogRunsSaid : Prop := plogRunsRow.holds Tryd.pinned (OpenSpec.ofChange plogRunsSpec)

/-- ITS FALSE NEIGHBOUR: 'it returns false'. Refute it at one input. -/
def plogRunsWrong : ChangeSpec := { name := "plogRuns", fn := fun _ => fun
  | [] => { results := [.lit (.bool false)], args := [] }
  | _ => none }
def PlogRunsWrongFalsely : Prop := plogRunsRow.holds Tryd.pinned (OpenSpec.ofChange plogRunsWrong)

/-- 'stavelaw17.PlogEnd': WHATEVER THE INPUT: true; the input reads as it did. -/
def plogEndSpec : ChangeSpec := { name := "plogEnd", fn := fun _ => fun
  | [d1, d2] => { results := [.lit (.bool true)], args := [d1, d2] }
  | _ => none }
def plogEndRow : OpenClaim := { program := "ytjajjblppogfoaadoor", sum := "6a6792c7b1fc4b0f8f82702dd9d99287bad63fb85a448a944a201aff280345c9", func := "stave/stavelaw17.PlogEnd", spec := "plogEnd", inPlace := ["internal/reflectlite.ValueOf", "(internal/reflectlite.Value).Type", "(internal/reflectlite.Value).IsNil", "internal/reflectlite.TypeOf", "(internal/reflectlite.Value).Elem", "(internal/reflectlite.Value).Set"], unfollowed := true, recurses := true, named := ["errors.errorType"], apart := false, laid := [("errors.errorType", laid_errors_errorType)] }
def PlogEndSaid : Prop := plogEndRow.holds Tryd.pinned (OpenSpec.ofChange plogEndSpec)

/-- ITS FALSE NEIGHBOUR: 'it returns false'. Refute it at one input. -/
def plogEndWrong : ChangeSpec := { name := "plogEnd", fn := fun _ => fun
  | [d1, d2] => { results := [.lit (.bool false)], args := [d1, d2] }
  | _ => none }
def PlogEndWrongFalsely : Prop := plogEndRow.holds Tryd.pinned (OpenSpec.ofChange plogEndWrong)

/-- 'stavelaw17.PlogRefuses': WHATEVER THE INPUT: true; the input reads as it did. -/
def plogRefusesSpec : ChangeSpec := { name := "plogRefuses", fn := fun _ => fun
  | [d1, d2, d3] => { results := [.lit (.bool true)], args := [d1, d2, d3] }
  | _ => none }
def plogRefusesRow : OpenClaim := { program := "ytjajjblppogfoaadoor", sum := "6a6792c7b1fc4b0f8f82702dd9d99287bad63fb85a448a944a201aff280345c9", func := "stave/stavelaw17.PlogRefuses", spec := "plogRefuses", inPlace := ["internal/reflectlite.ValueOf", "(internal/reflectlite.Value).Type", "(internal/reflectlite.Value).IsNil", "internal/reflectlite.TypeOf", "(internal/reflectlite.Value).Elem", "(internal/reflectlite.Value).Set"], unfollowed := true, recurses := true, named := ["errors.errorType"], apart := false, laid := [("errors.errorType", laid_errors_errorType)] }
def PlogRefusesSaid : Prop := plogRefusesRow.holds Tryd.pinned (OpenSpec.ofChange plogRefusesSpec)

/-- ITS FALSE NEIGHBOUR: 'it returns false'. Refute it at one input. -/
def plogRefusesWrong : ChangeSpec := { name := "plogRefuses", fn := fun _ => fun
  | [d1, d2, d3] => { results := [.lit (.bool false)], args := [d1, d2, d3] }
  | _ => none }
def PlogRefusesWrongFalsely : Prop := plogRefusesRow.holds Tryd.pinned (OpenSpec.ofChange plogRefusesWrong)

/-- 'stavelaw17.PlogTimes': WHATEVER THE INPUT: true; the input reads as it did. -/
def plogTimesSpec : ChangeSpec := { name := "plogTimes", fn := fun _ => fun
  | [d1, d2, d3] => { results := [.lit (.bool true)], args := [d1, d2, d3] }
  | _ => none }
def plogTimesRow : OpenClaim := { program := "ytjajjblppogfoaadoor", sum := "6a6792c7b1fc4b0f8f82702dd9d99287bad63fb85a448a944a201aff280345c9", func := "stave/stavelaw17.PlogTimes", spec := "plogTimes", inPlace := ["internal/reflectlite.ValueOf", "(internal/reflectlite.Value).Type", "(internal/reflectlite.Value).IsNil", "internal/reflectlite.TypeOf", "(internal/reflectlite.Value).Elem", "(internal/reflectlite.Value).Set"], unfollowed := true, recurses := true, named := ["errors.errorType"], apart := false, laid := [("errors.errorType", laid_errors_errorType)] }
def PlogTimesSaid : Prop := plogTimesRow.holds Tryd.pinned (OpenSpec.ofChange plogTimesSpec)

/-- ITS FALSE NEIGHBOUR: 'it returns false'. Refute it at one input. -/
def plogTimesWrong : ChangeSpec := { name := "plogTimes", fn := fun _ => fun
  | [d1, d2, d3] => { results := [.lit (.bool false)], args := [d1, d2, d3] }
  | _ => none }
def PlogTimesWrongFalsely : Prop := plogTimesRow.holds Tryd.pinned (OpenSpec.ofChange plogTimesWrong)

/-- 'stavelaw17.PlogGapless': WHATEVER THE INPUT: true; the input reads as it did. -/
def plogGaplessSpec : ChangeSpec := { name := "plogGapless", fn := fun _ => fun
  | [d1, d2] => { results := [.lit (.bool true)], args := [d1, d2] }
  | _ => none }
def plogGaplessRow : OpenClaim := { program := "ytjajjblppogfoaadoor", sum := "6a6792c7b1fc4b0f8f82702dd9d99287bad63fb85a448a944a201aff280345c9", func := "stave/stavelaw17.PlogGapless", spec := "plogGapless", inPlace := ["internal/reflectlite.ValueOf", "(internal/reflectlite.Value).Type", "(internal/reflectlite.Value).IsNil", "internal/reflectlite.TypeOf", "(internal/reflectlite.Value).Elem", "(internal/reflectlite.Value).Set"], unfollowed := true, recurses := true, named := ["errors.errorType"], apart := false, laid := [("errors.errorType", laid_errors_errorType)] }
def PlogGaplessSaid : Prop := plogGaplessRow.holds Tryd.pinned (OpenSpec.ofChange plogGaplessSpec)

/-- ITS FALSE NEIGHBOUR: 'it returns false'. Refute it at one input. -/
def plogGaplessWrong : ChangeSpec := { name := "plogGapless", fn := fun _ => fun
  | [d1, d2] => { results := [.lit (.bool false)], args := [d1, d2] }
  | _ => none }
def PlogGaplessWrongFalsely : Prop := plogGaplessRow.holds Tryd.pinned (OpenSpec.ofChange plogGaplessWrong)

/-- 'stavelaw17.PlogTrims': WHATEVER THE INPUT: true; the input reads as it did. -/
def plogTrimsSpec : ChangeSpec := { name := "plogTrims", fn := fun _ => fun
  | [d1, d2, d3, d4] => { results := [.lit (.bool true)], args := [d1, d2, d3, d4] }
  | _ => none }
def plogTrimsRow : OpenClaim := { program := "ytjajjblppogfoaadoor", sum := "6a6792c7b1fc4b0f8f82702dd9d99287bad63fb85a448a944a201aff280345c9", func := "stave/stavelaw17.PlogTrims", spec := "plogTrims", inPlace := ["internal/reflectlite.ValueOf", "(internal/reflectlite.Value).Type", "(internal/reflectlite.Value).IsNil", "internal/reflectlite.TypeOf", "(internal/reflectlite.Value).Elem", "(internal/reflectlite.Value).Set"], unfollowed := true, recurses := true, named := ["errors.errorType"], apart := false, laid := [("errors.errorType", laid_errors_errorType)] }
def PlogTrimsSaid : Prop := plogTrimsRow.holds Tryd.pinned (OpenSpec.ofChange plogTrimsSpec)

/-- ITS FALSE NEIGHBOUR: 'it returns false'. Refute it at one input. -/
def plogTrimsWrong : ChangeSpec := { name := "plogTrims", fn := fun _ => fun
  | [d1, d2, d3, d4] => { results := [.lit (.bool false)], args := [d1, d2, d3, d4] }
  | _ => none }
def PlogTrimsWrongFalsely : Prop := plogTrimsRow.holds Tryd.pinned (OpenSpec.ofChange plogTrimsWrong)

/-- 'stavelaw17.PlogPlays': WHATEVER THE INPUT: true; the input reads as it did. -/
def plogPlaysSpec : ChangeSpec := { name := "plogPlays", fn := fun _ => fun
  | [d1, d2] => { results := [.lit (.bool true)], args := [d1, d2] }
  | _ => none }
def plogPlaysRow : OpenClaim := { program := "ytjajjblppogfoaadoor", sum := "6a6792c7b1fc4b0f8f82702dd9d99287bad63fb85a448a944a201aff280345c9", func := "stave/stavelaw17.PlogPlays", spec := "plogPlays", inPlace := ["internal/reflectlite.ValueOf", "(internal/reflectlite.Value).Type", "(internal/reflectlite.Value).IsNil", "internal/reflectlite.TypeOf", "(internal/reflectlite.Value).Elem", "(internal/reflectlite.Value).Set"], unfollowed := true, recurses := true, named := ["errors.errorType"], apart := false, laid := [("errors.errorType", laid_errors_errorType)] }
def PlogPlaysSaid : Prop := plogPlaysRow.holds Tryd.pinned (OpenSpec.ofChange plogPlaysSpec)

/-- ITS FALSE NEIGHBOUR: 'it returns false'. Refute it at one input. -/
def plogPlaysWrong : ChangeSpec := { name := "plogPlays", fn := fun _ => fun
  | [d1, d2] => { results := [.lit (.bool false)], args := [d1, d2] }
  | _ => none }
def PlogPlaysWrongFalsely : Prop := plogPlaysRow.holds Tryd.pinned (OpenSpec.ofChange plogPlaysWrong)

/- THE SECOND FORM. 'bulk': how many values and letters a reading holds, each counted each time it is reached (what is shared counts as often as it is met; a slice's spare places count too). A statement '..UptoSaid' is the law's where the arguments, and the package variables that the reading takes, are together of bulk at most 1048576: NARROWER than '..Said'. Prove '..Said' where nothing that the law and all that it calls make is longer than what came in: it says more and counts as full. Else prove '..UptoSaid'. A law counts once. -/
mutual
def uptoBulk {H : Type} : DataW H → Nat
  | .lit (.string bytes) => bytes.length + 1
  | .lit _ => 1
  | .nil => 1
  | .ptr d => uptoBulk d + 1
  | .slice elems spare => uptoBulkAll elems + uptoBulkAll spare + 1
  | .agg parts => uptoBulkAll parts + 1
  | .iface _ d => uptoBulk d + 1
  | .map entries => uptoBulkEntries entries + 1
  | .held _ => 1
def uptoBulkAll {H : Type} : List (DataW H) → Nat
  | [] => 0
  | d :: r => uptoBulk d + uptoBulkAll r
def uptoBulkEntries {H : Type} : List (Lit × DataW H) → Nat
  | [] => 0
  | x :: r => uptoBulkEntry x + uptoBulkEntries r
def uptoBulkEntry {H : Type} : Lit × DataW H → Nat
  | (.string bytes, d) => bytes.length + uptoBulk d + 1
  | (_, d) => uptoBulk d + 1
 end
def uptoSmall : (H : Type) → List (DataW H) → Bool := fun _ ds => decide (uptoBulkAll ds ≤ 1048576)
def OpenSpec.upto (s : _root_.Go.ChangeSpec) : _root_.Go.OpenSpec := { _root_.Go.OpenSpec.ofChange s with cond := some uptoSmall }

/-- 'stavelaw1.FaultRuns', WHERE WHAT IT READS IS OF BULK AT MOST 1048576: true; the input reads as it did. -/
def faultRunsUptoRow : OpenClaim := { program := "ytjajjblppogfoaadoor", sum := "6a6792c7b1fc4b0f8f82702dd9d99287bad63fb85a448a944a201aff280345c9", func := "stave/stavelaw1.FaultRuns", spec := "faultRuns", inPlace := ["internal/reflectlite.ValueOf", "(internal/reflectlite.Value).Type", "(internal/reflectlite.Value).IsNil", "internal/reflectlite.TypeOf", "(internal/reflectlite.Value).Elem", "(internal/reflectlite.Value).Set"], unfollowed := true, recurses := true, named := ["errors.errorType"], apart := false, laid := [("errors.errorType", laid_errors_errorType)], narrowed := true }
def FaultRunsUptoSaid : Prop := faultRunsUptoRow.holds Tryd.pinned (OpenSpec.upto faultRunsSpec)

/-- 'stavelaw1.FaultNone', WHERE WHAT IT READS IS OF BULK AT MOST 1048576: true; the input reads as it did. -/
def faultNoneUptoRow : OpenClaim := { program := "ytjajjblppogfoaadoor", sum := "6a6792c7b1fc4b0f8f82702dd9d99287bad63fb85a448a944a201aff280345c9", func := "stave/stavelaw1.FaultNone", spec := "faultNone", inPlace := ["internal/reflectlite.ValueOf", "(internal/reflectlite.Value).Type", "(internal/reflectlite.Value).IsNil", "internal/reflectlite.TypeOf", "(internal/reflectlite.Value).Elem", "(internal/reflectlite.Value).Set"], unfollowed := true, recurses := true, named := ["errors.errorType"], apart := false, laid := [("errors.errorType", laid_errors_errorType)], narrowed := true }
def FaultNoneUptoSaid : Prop := faultNoneUptoRow.holds Tryd.pinned (OpenSpec.upto faultNoneSpec)

/-- 'stavelaw1.FaultInner', WHERE WHAT IT READS IS OF BULK AT MOST 1048576: true; the input reads as it did. -/
def faultInnerUptoRow : OpenClaim := { program := "ytjajjblppogfoaadoor", sum := "6a6792c7b1fc4b0f8f82702dd9d99287bad63fb85a448a944a201aff280345c9", func := "stave/stavelaw1.FaultInner", spec := "faultInner", inPlace := ["internal/reflectlite.ValueOf", "(internal/reflectlite.Value).Type", "(internal/reflectlite.Value).IsNil", "internal/reflectlite.TypeOf", "(internal/reflectlite.Value).Elem", "(internal/reflectlite.Value).Set"], unfollowed := true, recurses := true, named := ["errors.errorType"], apart := false, laid := [("errors.errorType", laid_errors_errorType)], narrowed := true }
def FaultInnerUptoSaid : Prop := faultInnerUptoRow.holds Tryd.pinned (OpenSpec.upto faultInnerSpec)

/-- 'stavelaw1.FaultLoss', WHERE WHAT IT READS IS OF BULK AT MOST 1048576: true; the input reads as it did. -/
def faultLossUptoRow : OpenClaim := { program := "ytjajjblppogfoaadoor", sum := "6a6792c7b1fc4b0f8f82702dd9d99287bad63fb85a448a944a201aff280345c9", func := "stave/stavelaw1.FaultLoss", spec := "faultLoss", inPlace := ["internal/reflectlite.ValueOf", "(internal/reflectlite.Value).Type", "(internal/reflectlite.Value).IsNil", "internal/reflectlite.TypeOf", "(internal/reflectlite.Value).Elem", "(internal/reflectlite.Value).Set"], unfollowed := true, recurses := true, named := ["errors.errorType"], apart := false, laid := [("errors.errorType", laid_errors_errorType)], narrowed := true }
def FaultLossUptoSaid : Prop := faultLossUptoRow.holds Tryd.pinned (OpenSpec.upto faultLossSpec)

/-- 'stavelaw17.PlogRuns', WHERE WHAT IT READS IS OF BULK AT MOST 1048576: true; the input reads as it did. -/
def plogRunsUptoRow : OpenClaim := { program := "ytjajjblppogfoaadoor", sum := "6a6792c7b1fc4b0f8f82702dd9d99287bad63fb85a448a944a201aff280345c9", func := "stave/stavelaw17.PlogRuns", spec := "plogRuns", inPlace := ["internal/reflectlite.ValueOf", "(internal/reflectlite.Value).Type", "(internal/reflectlite.Value).IsNil", "internal/reflectlite.TypeOf", "(internal/reflectlite.Value).Elem", "(internal/reflectlite.Value).Set"], unfollowed := true, recurses := true, named := ["errors.errorType"], apart := false, laid := [("errors.errorType", laid_errors_errorType)], narrowed := true }
def PlogRunsUptoSaid : Prop := plogRunsUptoRow.holds Tryd.pinned (OpenSpec.upto plogRunsSpec)

/-- 'stavelaw17.PlogEnd', WHERE WHAT IT READS IS OF BULK AT MOST 1048576: true; the input reads as it did. -/
def plogEndUptoRow : OpenClaim := { program := "ytjajjblppogfoaadoor", sum := "6a6792c7b1fc4b0f8f82702dd9d99287bad63fb85a448a944a201aff280345c9", func := "stave/stavelaw17.PlogEnd", spec := "plogEnd", inPlace := ["internal/reflectlite.ValueOf", "(internal/reflectlite.Value).Type", "(internal/reflectlite.Value).IsNil", "internal/reflectlite.TypeOf", "(internal/reflectlite.Value).Elem", "(internal/reflectlite.Value).Set"], unfollowed := true, recurses := true, named := ["errors.errorType"], apart := false, laid := [("errors.errorType", laid_errors_errorType)], narrowed := true }
def PlogEndUptoSaid : Prop := plogEndUptoRow.holds Tryd.pinned (OpenSpec.upto plogEndSpec)

/-- 'stavelaw17.PlogRefuses', WHERE WHAT IT READS IS OF BULK AT MOST 1048576: true; the input reads as it did. -/
def plogRefusesUptoRow : OpenClaim := { program := "ytjajjblppogfoaadoor", sum := "6a6792c7b1fc4b0f8f82702dd9d99287bad63fb85a448a944a201aff280345c9", func := "stave/stavelaw17.PlogRefuses", spec := "plogRefuses", inPlace := ["internal/reflectlite.ValueOf", "(internal/reflectlite.Value).Type", "(internal/reflectlite.Value).IsNil", "internal/reflectlite.TypeOf", "(internal/reflectlite.Value).Elem", "(internal/reflectlite.Value).Set"], unfollowed := true, recurses := true, named := ["errors.errorType"], apart := false, laid := [("errors.errorType", laid_errors_errorType)], narrowed := true }
def PlogRefusesUptoSaid : Prop := plogRefusesUptoRow.holds Tryd.pinned (OpenSpec.upto plogRefusesSpec)

/-- 'stavelaw17.PlogTimes', WHERE WHAT IT READS IS OF BULK AT MOST 1048576: true; the input reads as it did. -/
def plogTimesUptoRow : OpenClaim := { program := "ytjajjblppogfoaadoor", sum := "6a6792c7b1fc4b0f8f82702dd9d99287bad63fb85a448a944a201aff280345c9", func := "stave/stavelaw17.PlogTimes", spec := "plogTimes", inPlace := ["internal/reflectlite.ValueOf", "(internal/reflectlite.Value).Type", "(internal/reflectlite.Value).IsNil", "internal/reflectlite.TypeOf", "(internal/reflectlite.Value).Elem", "(internal/reflectlite.Value).Set"], unfollowed := true, recurses := true, named := ["errors.errorType"], apart := false, laid := [("errors.errorType", laid_errors_errorType)], narrowed := true }
def PlogTimesUptoSaid : Prop := plogTimesUptoRow.holds Tryd.pinned (OpenSpec.upto plogTimesSpec)

/-- 'stavelaw17.PlogGapless', WHERE WHAT IT READS IS OF BULK AT MOST 1048576: true; the input reads as it did. -/
def plogGaplessUptoRow : OpenClaim := { program := "ytjajjblppogfoaadoor", sum := "6a6792c7b1fc4b0f8f82702dd9d99287bad63fb85a448a944a201aff280345c9", func := "stave/stavelaw17.PlogGapless", spec := "plogGapless", inPlace := ["internal/reflectlite.ValueOf", "(internal/reflectlite.Value).Type", "(internal/reflectlite.Value).IsNil", "internal/reflectlite.TypeOf", "(internal/reflectlite.Value).Elem", "(internal/reflectlite.Value).Set"], unfollowed := true, recurses := true, named := ["errors.errorType"], apart := false, laid := [("errors.errorType", laid_errors_errorType)], narrowed := true }
def PlogGaplessUptoSaid : Prop := plogGaplessUptoRow.holds Tryd.pinned (OpenSpec.upto plogGaplessSpec)

/-- 'stavelaw17.PlogTrims', WHERE WHAT IT READS IS OF BULK AT MOST 1048576: true; the input reads as it did. -/
def plogTrimsUptoRow : OpenClaim := { program := "ytjajjblppogfoaadoor", sum := "6a6792c7b1fc4b0f8f82702dd9d99287bad63fb85a448a944a201aff280345c9", func := "stave/stavelaw17.PlogTrims", spec := "plogTrims", inPlace := ["internal/reflectlite.ValueOf", "(internal/reflectlite.Value).Type", "(internal/reflectlite.Value).IsNil", "internal/reflectlite.TypeOf", "(internal/reflectlite.Value).Elem", "(internal/reflectlite.Value).Set"], unfollowed := true, recurses := true, named := ["errors.errorType"], apart := false, laid := [("errors.errorType", laid_errors_errorType)], narrowed := true }
def PlogTrimsUptoSaid : Prop := plogTrimsUptoRow.holds Tryd.pinned (OpenSpec.upto plogTrimsSpec)

/-- 'stavelaw17.PlogPlays', WHERE WHAT IT READS IS OF BULK AT MOST 1048576: true; the input reads as it did. -/
def plogPlaysUptoRow : OpenClaim := { program := "ytjajjblppogfoaadoor", sum := "6a6792c7b1fc4b0f8f82702dd9d99287bad63fb85a448a944a201aff280345c9", func := "stave/stavelaw17.PlogPlays", spec := "plogPlays", inPlace := ["internal/reflectlite.ValueOf", "(internal/reflectlite.Value).Type", "(internal/reflectlite.Value).IsNil", "internal/reflectlite.TypeOf", "(internal/reflectlite.Value).Elem", "(internal/reflectlite.Value).Set"], unfollowed := true, recurses := true, named := ["errors.errorType"], apart := false, laid := [("errors.errorType", laid_errors_errorType)], narrowed := true }
def PlogPlaysUptoSaid : Prop := plogPlaysUptoRow.holds Tryd.pinned (OpenSpec.upto plogPlaysSpec)

end Rows
end Go.Proofs.YtjajjblppogfoaaDoor
