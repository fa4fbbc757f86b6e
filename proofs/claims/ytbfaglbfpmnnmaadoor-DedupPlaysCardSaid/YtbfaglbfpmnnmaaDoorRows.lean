/-
  NARROWER THAN 'FOR EVERY INPUT', by the rows' own cells (each row's printed sentence says how): DedupRuns: laid · DedupPlays: laid · DedupOnce: laid · DedupApart: laid · DedupLast: laid · DedupTwin: laid · ReplyTells: laid · ReplyBack: laid.
  DERIVED. THE GIVEN ROWS OF THIS SEAT. 8 by the template 'for every input the law returns true; each argument reads behind the call as it read before'; 0 by the template 'total and deterministic' (their statements: YtbfaglbfpmnnmaaDoorTotals.lean).
  GIVEN WITH THE SEED: the statements are not yours to turn. If you find one false, say at which input.
  Laid BY PROGRAM, IN A SANDBOX (cutbox-rows.mjs): the forced cells as the released guide's own fill.sh prints them over the translation aa0cc08f21f1b86d… (all of the seat's roots in one cut). By AI agents, Wed Nov 11 2026. No macro, syntax, notation, axiom, sorry.
-/
import Derived.Test.YtbfaglbfpmnnmaaDoorChecked
import GoSem.Claim
import GoSem.ClaimJoined
import GoSem.ClaimMapViews
import Derived.JoinedTies
import Derived.KernelRfl
namespace Go.Proofs.YtbfaglbfpmnnmaaDoor
/- THE CELL 'sum', in the pinned program and in every row, IS THE sha256 OF THE DUMP (.gsa) THAT YtbfaglbfpmnnmaaDoorProg.lean LOADS. Nothing in Lean hashes anything: it is a label: what it is worth is what the hold of that sum in a sandbox is worth. -/
noncomputable def Tryd.pinned : Pinned := { name := "ytbfaglbfpmnnmaadoor", sum := "aa0cc08f21f1b86d944ce9a84963b139f8463fa32b1b068750ed6621c8f43ed0", checked := Tryd.checked }
namespace Rows
def none {H : Type} : Left H := { results := [], args := [] }

/- WHAT THE LISTED PACKAGE-LEVEL VARIABLES READ AS WHEN THE CALL BEGINS. Each datum BY PROGRAM (the guide's laid-datum.mjs) off the statement by which the dump's own 'gosem.cut.vars' lays the variable. In a bare row this is a premise. The card (YtbfaglbfpmnnmaaDoorCards.lean) ties it to the program's text. -/
def laid_errors_errorType {H : Type} : DataW H := .iface "internal/reflectlite.rtype" (.agg [.ptr (.lit (.string [101, 114, 114, 111, 114]))])

/-- 'stavelaw18.DedupRuns': WHATEVER THE INPUT: true; the input reads as it did. -/
def dedupRunsSpec : ChangeSpec := { name := "dedupRuns", fn := fun _ => fun
  | [] => { results := [.lit (.bool true)], args := [] }
  | _ => none }
def dedupRunsRow : OpenClaim := { program := "ytbfaglbfpmnnmaadoor", sum := "aa0cc08f21f1b86d944ce9a84963b139f8463fa32b1b068750ed6621c8f43ed0", func := "stave/stavelaw18.DedupRuns", spec := "dedupRuns", inPlace := ["internal/reflectlite.ValueOf", "(internal/reflectlite.Value).Type", "(internal/reflectlite.Value).IsNil", "internal/reflectlite.TypeOf", "(internal/reflectlite.Value).Elem", "(internal/reflectlite.Value).Set"], unfollowed := true, recurses := true, named := ["errors.errorType"], apart := false, laid := [("errors.errorType", laid_errors_errorType)] }
def DedupRunsSaid : Prop := dedupRunsRow.holds Tryd.pinned (OpenSpec.ofChange dedupRunsSpec)

/-- ITS FALSE NEIGHBOUR: 'it returns false'. Refute it at one input. -/
def dedupRunsWrong : ChangeSpec := { name := "dedupRuns", fn := fun _ => fun
  | [] => { results := [.lit (.bool false)], args := [] }
  | _ => none }
def DedupRunsWrongFalsely : Prop := dedupRunsRow.holds Tryd.pinned (OpenSpec.ofChange dedupRunsWrong)

/-- 'stavelaw18.DedupPlays': WHATEVER THE INPUT: true; the input reads as it did. -/
def dedupPlaysSpec : ChangeSpec := { name := "dedupPlays", fn := fun _ => fun
  | [d] => { results := [.lit (.bool true)], args := [d] }
  | _ => none }
def dedupPlaysRow : OpenClaim := { program := "ytbfaglbfpmnnmaadoor", sum := "aa0cc08f21f1b86d944ce9a84963b139f8463fa32b1b068750ed6621c8f43ed0", func := "stave/stavelaw18.DedupPlays", spec := "dedupPlays", inPlace := ["internal/reflectlite.ValueOf", "(internal/reflectlite.Value).Type", "(internal/reflectlite.Value).IsNil", "internal/reflectlite.TypeOf", "(internal/reflectlite.Value).Elem", "(internal/reflectlite.Value).Set"], unfollowed := true, recurses := true, named := ["errors.errorType"], apart := false, laid := [("errors.errorType", laid_errors_errorType)] }
def DedupPlaysSaid : Prop := dedupPlaysRow.holds Tryd.pinned (OpenSpec.ofChange dedupPlaysSpec)

/-- ITS FALSE NEIGHBOUR: 'it returns false'. Refute it at one input. -/
def dedupPlaysWrong : ChangeSpec := { name := "dedupPlays", fn := fun _ => fun
  | [d] => { results := [.lit (.bool false)], args := [d] }
  | _ => none }
def DedupPlaysWrongFalsely : Prop := dedupPlaysRow.holds Tryd.pinned (OpenSpec.ofChange dedupPlaysWrong)

/-- 'stavelaw18.DedupOnce': WHATEVER THE INPUT: true; the input reads as it did. -/
def dedupOnceSpec : ChangeSpec := { name := "dedupOnce", fn := fun _ => fun
  | [d1, d2] => { results := [.lit (.bool true)], args := [d1, d2] }
  | _ => none }
def dedupOnceRow : OpenClaim := { program := "ytbfaglbfpmnnmaadoor", sum := "aa0cc08f21f1b86d944ce9a84963b139f8463fa32b1b068750ed6621c8f43ed0", func := "stave/stavelaw18.DedupOnce", spec := "dedupOnce", inPlace := ["internal/reflectlite.ValueOf", "(internal/reflectlite.Value).Type", "(internal/reflectlite.Value).IsNil", "internal/reflectlite.TypeOf", "(internal/reflectlite.Value).Elem", "(internal/reflectlite.Value).Set"], unfollowed := true, recurses := true, named := ["errors.errorType"], apart := false, laid := [("errors.errorType", laid_errors_errorType)] }
def DedupOnceSaid : Prop := dedupOnceRow.holds Tryd.pinned (OpenSpec.ofChange dedupOnceSpec)

/-- ITS FALSE NEIGHBOUR: 'it returns false'. Refute it at one input. -/
def dedupOnceWrong : ChangeSpec := { name := "dedupOnce", fn := fun _ => fun
  | [d1, d2] => { results := [.lit (.bool false)], args := [d1, d2] }
  | _ => none }
def DedupOnceWrongFalsely : Prop := dedupOnceRow.holds Tryd.pinned (OpenSpec.ofChange dedupOnceWrong)

/-- 'stavelaw18.DedupApart': WHATEVER THE INPUT: true; the input reads as it did. -/
def dedupApartSpec : ChangeSpec := { name := "dedupApart", fn := fun _ => fun
  | [d1, d2, d3] => { results := [.lit (.bool true)], args := [d1, d2, d3] }
  | _ => none }
def dedupApartRow : OpenClaim := { program := "ytbfaglbfpmnnmaadoor", sum := "aa0cc08f21f1b86d944ce9a84963b139f8463fa32b1b068750ed6621c8f43ed0", func := "stave/stavelaw18.DedupApart", spec := "dedupApart", inPlace := ["internal/reflectlite.ValueOf", "(internal/reflectlite.Value).Type", "(internal/reflectlite.Value).IsNil", "internal/reflectlite.TypeOf", "(internal/reflectlite.Value).Elem", "(internal/reflectlite.Value).Set"], unfollowed := true, recurses := true, named := ["errors.errorType"], apart := false, laid := [("errors.errorType", laid_errors_errorType)] }
def DedupApartSaid : Prop := dedupApartRow.holds Tryd.pinned (OpenSpec.ofChange dedupApartSpec)

/-- ITS FALSE NEIGHBOUR: 'it returns false'. Refute it at one input. -/
def dedupApartWrong : ChangeSpec := { name := "dedupApart", fn := fun _ => fun
  | [d1, d2, d3] => { results := [.lit (.bool false)], args := [d1, d2, d3] }
  | _ => none }
def DedupApartWrongFalsely : Prop := dedupApartRow.holds Tryd.pinned (OpenSpec.ofChange dedupApartWrong)

/-- 'stavelaw18.DedupLast': WHATEVER THE INPUT: true; the input reads as it did. -/
def dedupLastSpec : ChangeSpec := { name := "dedupLast", fn := fun _ => fun
  | [d1, d2] => { results := [.lit (.bool true)], args := [d1, d2] }
  | _ => none }
def dedupLastRow : OpenClaim := { program := "ytbfaglbfpmnnmaadoor", sum := "aa0cc08f21f1b86d944ce9a84963b139f8463fa32b1b068750ed6621c8f43ed0", func := "stave/stavelaw18.DedupLast", spec := "dedupLast", inPlace := ["internal/reflectlite.ValueOf", "(internal/reflectlite.Value).Type", "(internal/reflectlite.Value).IsNil", "internal/reflectlite.TypeOf", "(internal/reflectlite.Value).Elem", "(internal/reflectlite.Value).Set"], unfollowed := true, recurses := true, named := ["errors.errorType"], apart := false, laid := [("errors.errorType", laid_errors_errorType)] }
def DedupLastSaid : Prop := dedupLastRow.holds Tryd.pinned (OpenSpec.ofChange dedupLastSpec)

/-- ITS FALSE NEIGHBOUR: 'it returns false'. Refute it at one input. -/
def dedupLastWrong : ChangeSpec := { name := "dedupLast", fn := fun _ => fun
  | [d1, d2] => { results := [.lit (.bool false)], args := [d1, d2] }
  | _ => none }
def DedupLastWrongFalsely : Prop := dedupLastRow.holds Tryd.pinned (OpenSpec.ofChange dedupLastWrong)

/-- 'stavelaw18.DedupTwin': WHATEVER THE INPUT: true; the input reads as it did. -/
def dedupTwinSpec : ChangeSpec := { name := "dedupTwin", fn := fun _ => fun
  | [d1, d2, d3] => { results := [.lit (.bool true)], args := [d1, d2, d3] }
  | _ => none }
def dedupTwinRow : OpenClaim := { program := "ytbfaglbfpmnnmaadoor", sum := "aa0cc08f21f1b86d944ce9a84963b139f8463fa32b1b068750ed6621c8f43ed0", func := "stave/stavelaw18.DedupTwin", spec := "dedupTwin", inPlace := ["maps.clone", "internal/reflectlite.ValueOf", "(internal/reflectlite.Value).Type", "(internal/reflectlite.Value).IsNil", "internal/reflectlite.TypeOf", "(internal/reflectlite.Value).Elem", "(internal/reflectlite.Value).Set"], unfollowed := true, recurses := true, named := ["errors.errorType"], apart := false, laid := [("errors.errorType", laid_errors_errorType)] }
def DedupTwinSaid : Prop := dedupTwinRow.holds Tryd.pinned (OpenSpec.ofChange dedupTwinSpec)

/-- ITS FALSE NEIGHBOUR: 'it returns false'. Refute it at one input. -/
def dedupTwinWrong : ChangeSpec := { name := "dedupTwin", fn := fun _ => fun
  | [d1, d2, d3] => { results := [.lit (.bool false)], args := [d1, d2, d3] }
  | _ => none }
def DedupTwinWrongFalsely : Prop := dedupTwinRow.holds Tryd.pinned (OpenSpec.ofChange dedupTwinWrong)

/-- 'stavelaw23.ReplyTells': WHATEVER THE INPUT: true; the input reads as it did. -/
def replyTellsSpec : ChangeSpec := { name := "replyTells", fn := fun _ => fun
  | [d1, d2, d3, d4] => { results := [.lit (.bool true)], args := [d1, d2, d3, d4] }
  | _ => none }
def replyTellsRow : OpenClaim := { program := "ytbfaglbfpmnnmaadoor", sum := "aa0cc08f21f1b86d944ce9a84963b139f8463fa32b1b068750ed6621c8f43ed0", func := "stave/stavelaw23.ReplyTells", spec := "replyTells", inPlace := ["internal/reflectlite.ValueOf", "(internal/reflectlite.Value).Type", "(internal/reflectlite.Value).IsNil", "internal/reflectlite.TypeOf", "(internal/reflectlite.Value).Elem", "(internal/reflectlite.Value).Set"], unfollowed := true, recurses := true, named := ["errors.errorType"], apart := false, laid := [("errors.errorType", laid_errors_errorType)] }
def ReplyTellsSaid : Prop := replyTellsRow.holds Tryd.pinned (OpenSpec.ofChange replyTellsSpec)

/-- ITS FALSE NEIGHBOUR: 'it returns false'. Refute it at one input. -/
def replyTellsWrong : ChangeSpec := { name := "replyTells", fn := fun _ => fun
  | [d1, d2, d3, d4] => { results := [.lit (.bool false)], args := [d1, d2, d3, d4] }
  | _ => none }
def ReplyTellsWrongFalsely : Prop := replyTellsRow.holds Tryd.pinned (OpenSpec.ofChange replyTellsWrong)

/-- 'stavelaw23.ReplyBack': WHATEVER THE INPUT: true; the input reads as it did. -/
def replyBackSpec : ChangeSpec := { name := "replyBack", fn := fun _ => fun
  | [d1, d2, d3, d4] => { results := [.lit (.bool true)], args := [d1, d2, d3, d4] }
  | _ => none }
def replyBackRow : OpenClaim := { program := "ytbfaglbfpmnnmaadoor", sum := "aa0cc08f21f1b86d944ce9a84963b139f8463fa32b1b068750ed6621c8f43ed0", func := "stave/stavelaw23.ReplyBack", spec := "replyBack", inPlace := ["internal/reflectlite.ValueOf", "(internal/reflectlite.Value).Type", "(internal/reflectlite.Value).IsNil", "internal/reflectlite.TypeOf", "(internal/reflectlite.Value).Elem", "(internal/reflectlite.Value).Set"], unfollowed := true, recurses := true, named := ["errors.errorType"], apart := false, laid := [("errors.errorType", laid_errors_errorType)] }
def ReplyBackSaid : Prop := replyBackRow.holds Tryd.pinned (OpenSpec.ofChange replyBackSpec)

/-- ITS FALSE NEIGHBOUR: 'it returns false'. Refute it at one input. -/
def replyBackWrong : ChangeSpec := { name := "replyBack", fn := fun _ => fun
  | [d1, d2, d3, d4] => { results := [.lit (.bool false)], args := [d1, d2, d3, d4] }
  | _ => none }
def ReplyBackWrongFalsely : Prop := replyBackRow.holds Tryd.pinned (OpenSpec.ofChange replyBackWrong)

/- THE SECOND FORM. 'bulk': how many values and letters a reading holds, each counted each time it is reached (what is shared counts as often as it is met; a slice's spare places count too). A statement '..UptoSaid' is the law's where the arguments, and the package variables that the reading takes, are together of bulk at most 1048576: NARROWER than '..Said'. Prove '..Said' where nothing that the law and all that it calls make is longer than what came in: it says more and counts as full. Else prove '..UptoSaid'. A law counts once. -/
mutual
def uptoBulk {H : Type} : DataW H → Nat
  | .lit (.string bytes) => bytes.length + 1
  | .lit _ => 1
  | .nil => 1
  | .ptr d => uptoBulk d + 1
  | .slice elems spare => uptoBulkAll elems + uptoBulkAll spare + 1
  | .agg parts => uptoBulkAll parts + 1
  | .iface _ d => uptoBulk d + 1
  | .map entries => uptoBulkEntries entries + 1
  | .held _ => 1
def uptoBulkAll {H : Type} : List (DataW H) → Nat
  | [] => 0
  | d :: r => uptoBulk d + uptoBulkAll r
def uptoBulkEntries {H : Type} : List (Lit × DataW H) → Nat
  | [] => 0
  | x :: r => uptoBulkEntry x + uptoBulkEntries r
def uptoBulkEntry {H : Type} : Lit × DataW H → Nat
  | (.string bytes, d) => bytes.length + uptoBulk d + 1
  | (_, d) => uptoBulk d + 1
 end
def uptoSmall : (H : Type) → List (DataW H) → Bool := fun _ ds => decide (uptoBulkAll ds ≤ 1048576)
def OpenSpec.upto (s : _root_.Go.ChangeSpec) : _root_.Go.OpenSpec := { _root_.Go.OpenSpec.ofChange s with cond := some uptoSmall }

/-- 'stavelaw18.DedupRuns', WHERE WHAT IT READS IS OF BULK AT MOST 1048576: true; the input reads as it did. -/
def dedupRunsUptoRow : OpenClaim := { program := "ytbfaglbfpmnnmaadoor", sum := "aa0cc08f21f1b86d944ce9a84963b139f8463fa32b1b068750ed6621c8f43ed0", func := "stave/stavelaw18.DedupRuns", spec := "dedupRuns", inPlace := ["internal/reflectlite.ValueOf", "(internal/reflectlite.Value).Type", "(internal/reflectlite.Value).IsNil", "internal/reflectlite.TypeOf", "(internal/reflectlite.Value).Elem", "(internal/reflectlite.Value).Set"], unfollowed := true, recurses := true, named := ["errors.errorType"], apart := false, laid := [("errors.errorType", laid_errors_errorType)], narrowed := true }
def DedupRunsUptoSaid : Prop := dedupRunsUptoRow.holds Tryd.pinned (OpenSpec.upto dedupRunsSpec)

/-- 'stavelaw18.DedupPlays', WHERE WHAT IT READS IS OF BULK AT MOST 1048576: true; the input reads as it did. -/
def dedupPlaysUptoRow : OpenClaim := { program := "ytbfaglbfpmnnmaadoor", sum := "aa0cc08f21f1b86d944ce9a84963b139f8463fa32b1b068750ed6621c8f43ed0", func := "stave/stavelaw18.DedupPlays", spec := "dedupPlays", inPlace := ["internal/reflectlite.ValueOf", "(internal/reflectlite.Value).Type", "(internal/reflectlite.Value).IsNil", "internal/reflectlite.TypeOf", "(internal/reflectlite.Value).Elem", "(internal/reflectlite.Value).Set"], unfollowed := true, recurses := true, named := ["errors.errorType"], apart := false, laid := [("errors.errorType", laid_errors_errorType)], narrowed := true }
def DedupPlaysUptoSaid : Prop := dedupPlaysUptoRow.holds Tryd.pinned (OpenSpec.upto dedupPlaysSpec)

/-- 'stavelaw18.DedupOnce', WHERE WHAT IT READS IS OF BULK AT MOST 1048576: true; the input reads as it did. -/
def dedupOnceUptoRow : OpenClaim := { program := "ytbfaglbfpmnnmaadoor", sum := "aa0cc08f21f1b86d944ce9a84963b139f8463fa32b1b068750ed6621c8f43ed0", func := "stave/stavelaw18.DedupOnce", spec := "dedupOnce", inPlace := ["internal/reflectlite.ValueOf", "(internal/reflectlite.Value).Type", "(internal/reflectlite.Value).IsNil", "internal/reflectlite.TypeOf", "(internal/reflectlite.Value).Elem", "(internal/reflectlite.Value).Set"], unfollowed := true, recurses := true, named := ["errors.errorType"], apart := false, laid := [("errors.errorType", laid_errors_errorType)], narrowed := true }
def DedupOnceUptoSaid : Prop := dedupOnceUptoRow.holds Tryd.pinned (OpenSpec.upto dedupOnceSpec)

/-- 'stavelaw18.DedupApart', WHERE WHAT IT READS IS OF BULK AT MOST 1048576: true; the input reads as it did. -/
def dedupApartUptoRow : OpenClaim := { program := "ytbfaglbfpmnnmaadoor", sum := "aa0cc08f21f1b86d944ce9a84963b139f8463fa32b1b068750ed6621c8f43ed0", func := "stave/stavelaw18.DedupApart", spec := "dedupApart", inPlace := ["internal/reflectlite.ValueOf", "(internal/reflectlite.Value).Type", "(internal/reflectlite.Value).IsNil", "internal/reflectlite.TypeOf", "(internal/reflectlite.Value).Elem", "(internal/reflectlite.Value).Set"], unfollowed := true, recurses := true, named := ["errors.errorType"], apart := false, laid := [("errors.errorType", laid_errors_errorType)], narrowed := true }
def DedupApartUptoSaid : Prop := dedupApartUptoRow.holds Tryd.pinned (OpenSpec.upto dedupApartSpec)

/-- 'stavelaw18.DedupLast', WHERE WHAT IT READS IS OF BULK AT MOST 1048576: true; the input reads as it did. -/
def dedupLastUptoRow : OpenClaim := { program := "ytbfaglbfpmnnmaadoor", sum := "aa0cc08f21f1b86d944ce9a84963b139f8463fa32b1b068750ed6621c8f43ed0", func := "stave/stavelaw18.DedupLast", spec := "dedupLast", inPlace := ["internal/reflectlite.ValueOf", "(internal/reflectlite.Value).Type", "(internal/reflectlite.Value).IsNil", "internal/reflectlite.TypeOf", "(internal/reflectlite.Value).Elem", "(internal/reflectlite.Value).Set"], unfollowed := true, recurses := true, named := ["errors.errorType"], apart := false, laid := [("errors.errorType", laid_errors_errorType)], narrowed := true }
def DedupLastUptoSaid : Prop := dedupLastUptoRow.holds Tryd.pinned (OpenSpec.upto dedupLastSpec)

/-- 'stavelaw18.DedupTwin', WHERE WHAT IT READS IS OF BULK AT MOST 1048576: true; the input reads as it did. -/
def dedupTwinUptoRow : OpenClaim := { program := "ytbfaglbfpmnnmaadoor", sum := "aa0cc08f21f1b86d944ce9a84963b139f8463fa32b1b068750ed6621c8f43ed0", func := "stave/stavelaw18.DedupTwin", spec := "dedupTwin", inPlace := ["maps.clone", "internal/reflectlite.ValueOf", "(internal/reflectlite.Value).Type", "(internal/reflectlite.Value).IsNil", "internal/reflectlite.TypeOf", "(internal/reflectlite.Value).Elem", "(internal/reflectlite.Value).Set"], unfollowed := true, recurses := true, named := ["errors.errorType"], apart := false, laid := [("errors.errorType", laid_errors_errorType)], narrowed := true }
def DedupTwinUptoSaid : Prop := dedupTwinUptoRow.holds Tryd.pinned (OpenSpec.upto dedupTwinSpec)

/-- 'stavelaw23.ReplyTells', WHERE WHAT IT READS IS OF BULK AT MOST 1048576: true; the input reads as it did. -/
def replyTellsUptoRow : OpenClaim := { program := "ytbfaglbfpmnnmaadoor", sum := "aa0cc08f21f1b86d944ce9a84963b139f8463fa32b1b068750ed6621c8f43ed0", func := "stave/stavelaw23.ReplyTells", spec := "replyTells", inPlace := ["internal/reflectlite.ValueOf", "(internal/reflectlite.Value).Type", "(internal/reflectlite.Value).IsNil", "internal/reflectlite.TypeOf", "(internal/reflectlite.Value).Elem", "(internal/reflectlite.Value).Set"], unfollowed := true, recurses := true, named := ["errors.errorType"], apart := false, laid := [("errors.errorType", laid_errors_errorType)], narrowed := true }
def ReplyTellsUptoSaid : Prop := replyTellsUptoRow.holds Tryd.pinned (OpenSpec.upto replyTellsSpec)

/-- 'stavelaw23.ReplyBack', WHERE WHAT IT READS IS OF BULK AT MOST 1048576: true; the input reads as it did. -/
def replyBackUptoRow : OpenClaim := { program := "ytbfaglbfpmnnmaadoor", sum := "aa0cc08f21f1b86d944ce9a84963b139f8463fa32b1b068750ed6621c8f43ed0", func := "stave/stavelaw23.ReplyBack", spec := "replyBack", inPlace := ["internal/reflectlite.ValueOf", "(internal/reflectlite.Value).Type", "(internal/reflectlite.Value).IsNil", "internal/reflectlite.TypeOf", "(internal/reflectlite.Value).Elem", "(internal/reflectlite.Value).Set"], unfollowed := true, recurses := true, named := ["errors.errorType"], apart := false, laid := [("errors.errorType", laid_errors_errorType)], narrowed := true }
def ReplyBackUptoSaid : Prop := replyBackUptoRow.holds Tryd.pinned (OpenSpec.upto replyBackSpec)

end Rows
end Go.Proofs.YtbfaglbfpmnnmaaDoor
