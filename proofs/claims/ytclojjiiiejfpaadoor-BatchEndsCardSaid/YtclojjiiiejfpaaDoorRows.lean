/-
  NARROWER THAN 'FOR EVERY INPUT', by the rows' own cells (each row's printed sentence says how): GramRuns: laid · GramTells: laid · GramReads: laid · GramBack: laid · GramOnly: laid · GramEnds: laid · GramJoins: laid · GramTexts: laid · BatchRuns: laid · BatchTells: laid · BatchBack: laid · BatchEnds: laid · BatchOnly: laid.
  DERIVED. THE GIVEN ROWS OF THIS SEAT. 13 by the template 'for every input the law returns true; each argument reads behind the call as it read before'; 0 by the template 'total and deterministic' (their statements: YtclojjiiiejfpaaDoorTotals.lean).
  GIVEN WITH THE SEED: the statements are not yours to turn. If you find one false, say at which input.
  Laid BY PROGRAM, IN A SANDBOX (cutbox-rows.mjs): the forced cells as the released guide's own fill.sh prints them over the translation 00ab0abcdded227f… (all of the seat's roots in one cut). By AI agents, Wed Nov 11 2026. No macro, syntax, notation, axiom, sorry.
-/
import Derived.Test.YtclojjiiiejfpaaDoorChecked
import GoSem.Claim
import GoSem.ClaimJoined
import GoSem.ClaimMapViews
import Derived.JoinedTies
import Derived.KernelRfl
namespace Go.Proofs.YtclojjiiiejfpaaDoor
/- THE CELL 'sum', in the pinned program and in every row, IS THE sha256 OF THE DUMP (.gsa) THAT YtclojjiiiejfpaaDoorProg.lean LOADS. Nothing in Lean hashes anything: it is a label: what it is worth is what the hold of that sum in a sandbox is worth. -/
noncomputable def Tryd.pinned : Pinned := { name := "ytclojjiiiejfpaadoor", sum := "00ab0abcdded227f6819ce5d107886f631cfb1e1ced7b0c37684d7b880e75a18", checked := Tryd.checked }
namespace Rows
def none {H : Type} : Left H := { results := [], args := [] }

/- WHAT THE LISTED PACKAGE-LEVEL VARIABLES READ AS WHEN THE CALL BEGINS. Each datum BY PROGRAM (the guide's laid-datum.mjs) off the statement by which the dump's own 'gosem.cut.vars' lays the variable. In a bare row this is a premise. The card (YtclojjiiiejfpaaDoorCards.lean) ties it to the program's text. -/
def laid_errors_errorType {H : Type} : DataW H := .iface "internal/reflectlite.rtype" (.agg [.ptr (.lit (.string [101, 114, 114, 111, 114]))])

/-- 'stavelaw2.GramRuns': WHATEVER THE INPUT: true; the input reads as it did. -/
def gramRunsSpec : ChangeSpec := { name := "gramRuns", fn := fun _ => fun
  | [] => { results := [.lit (.bool true)], args := [] }
  | _ => none }
def gramRunsRow : OpenClaim := { program := "ytclojjiiiejfpaadoor", sum := "00ab0abcdded227f6819ce5d107886f631cfb1e1ced7b0c37684d7b880e75a18", func := "stave/stavelaw2.GramRuns", spec := "gramRuns", inPlace := ["internal/reflectlite.ValueOf", "(internal/reflectlite.Value).Type", "(internal/reflectlite.Value).IsNil", "internal/reflectlite.TypeOf", "(internal/reflectlite.Value).Elem", "(internal/reflectlite.Value).Set"], unfollowed := true, recurses := true, named := ["errors.errorType"], apart := false, laid := [("errors.errorType", laid_errors_errorType)] }
def GramRunsSaid : Prop := gramRunsRow.holds Tryd.pinned (OpenSpec.ofChange gramRunsSpec)

/-- ITS FALSE NEIGHBOUR: 'it returns false'. Refute it at one input. -/
def gramRunsWrong : ChangeSpec := { name := "gramRuns", fn := fun _ => fun
  | [] => { results := [.lit (.bool false)], args := [] }
  | _ => none }
def GramRunsWrongFalsely : Prop := gramRunsRow.holds Tryd.pinned (OpenSpec.ofChange gramRunsWrong)

/-- 'stavelaw2.GramTells': WHATEVER THE INPUT: true; the input reads as it did. -/
def gramTellsSpec : ChangeSpec := { name := "gramTells", fn := fun _ => fun
  | [d1, d2] => { results := [.lit (.bool true)], args := [d1, d2] }
  | _ => none }
def gramTellsRow : OpenClaim := { program := "ytclojjiiiejfpaadoor", sum := "00ab0abcdded227f6819ce5d107886f631cfb1e1ced7b0c37684d7b880e75a18", func := "stave/stavelaw2.GramTells", spec := "gramTells", inPlace := ["internal/reflectlite.ValueOf", "(internal/reflectlite.Value).Type", "(internal/reflectlite.Value).IsNil", "internal/reflectlite.TypeOf", "(internal/reflectlite.Value).Elem", "(internal/reflectlite.Value).Set"], unfollowed := true, recurses := true, named := ["errors.errorType"], apart := false, laid := [("errors.errorType", laid_errors_errorType)] }
def GramTellsSaid : Prop := gramTellsRow.holds Tryd.pinned (OpenSpec.ofChange gramTellsSpec)

/-- ITS FALSE NEIGHBOUR: 'it returns false'. Refute it at one input. -/
def gramTellsWrong : ChangeSpec := { name := "gramTells", fn := fun _ => fun
  | [d1, d2] => { results := [.lit (.bool false)], args := [d1, d2] }
  | _ => none }
def GramTellsWrongFalsely : Prop := gramTellsRow.holds Tryd.pinned (OpenSpec.ofChange gramTellsWrong)

/-- 'stavelaw2.GramReads': WHATEVER THE INPUT: true; the input reads as it did. -/
def gramReadsSpec : ChangeSpec := { name := "gramReads", fn := fun _ => fun
  | [d1, d2, d3, d4, d5] => { results := [.lit (.bool true)], args := [d1, d2, d3, d4, d5] }
  | _ => none }
def gramReadsRow : OpenClaim := { program := "ytclojjiiiejfpaadoor", sum := "00ab0abcdded227f6819ce5d107886f631cfb1e1ced7b0c37684d7b880e75a18", func := "stave/stavelaw2.GramReads", spec := "gramReads", inPlace := ["internal/reflectlite.ValueOf", "(internal/reflectlite.Value).Type", "(internal/reflectlite.Value).IsNil", "internal/reflectlite.TypeOf", "(internal/reflectlite.Value).Elem", "(internal/reflectlite.Value).Set"], unfollowed := true, recurses := true, named := ["errors.errorType"], apart := false, laid := [("errors.errorType", laid_errors_errorType)] }
def GramReadsSaid : Prop := gramReadsRow.holds Tryd.pinned (OpenSpec.ofChange gramReadsSpec)

/-- ITS FALSE NEIGHBOUR: 'it returns false'. Refute it at one input. -/
def gramReadsWrong : ChangeSpec := { name := "gramReads", fn := fun _ => fun
  | [d1, d2, d3, d4, d5] => { results := [.lit (.bool false)], args := [d1, d2, d3, d4, d5] }
  | _ => none }
def GramReadsWrongFalsely : Prop := gramReadsRow.holds Tryd.pinned (OpenSpec.ofChange gramReadsWrong)

/-- 'stavelaw2.GramBack': WHATEVER THE INPUT: true; the input reads as it did. -/
def gramBackSpec : ChangeSpec := { name := "gramBack", fn := fun _ => fun
  | [d1, d2, d3, d4] => { results := [.lit (.bool true)], args := [d1, d2, d3, d4] }
  | _ => none }
def gramBackRow : OpenClaim := { program := "ytclojjiiiejfpaadoor", sum := "00ab0abcdded227f6819ce5d107886f631cfb1e1ced7b0c37684d7b880e75a18", func := "stave/stavelaw2.GramBack", spec := "gramBack", inPlace := ["internal/reflectlite.ValueOf", "(internal/reflectlite.Value).Type", "(internal/reflectlite.Value).IsNil", "internal/reflectlite.TypeOf", "(internal/reflectlite.Value).Elem", "(internal/reflectlite.Value).Set"], unfollowed := true, recurses := true, named := ["errors.errorType"], apart := false, laid := [("errors.errorType", laid_errors_errorType)] }
def GramBackSaid : Prop := gramBackRow.holds Tryd.pinned (OpenSpec.ofChange gramBackSpec)

/-- ITS FALSE NEIGHBOUR: 'it returns false'. Refute it at one input. -/
def gramBackWrong : ChangeSpec := { name := "gramBack", fn := fun _ => fun
  | [d1, d2, d3, d4] => { results := [.lit (.bool false)], args := [d1, d2, d3, d4] }
  | _ => none }
def GramBackWrongFalsely : Prop := gramBackRow.holds Tryd.pinned (OpenSpec.ofChange gramBackWrong)

/-- 'stavelaw2.GramOnly': WHATEVER THE INPUT: true; the input reads as it did. -/
def gramOnlySpec : ChangeSpec := { name := "gramOnly", fn := fun _ => fun
  | [d1, d2] => { results := [.lit (.bool true)], args := [d1, d2] }
  | _ => none }
def gramOnlyRow : OpenClaim := { program := "ytclojjiiiejfpaadoor", sum := "00ab0abcdded227f6819ce5d107886f631cfb1e1ced7b0c37684d7b880e75a18", func := "stave/stavelaw2.GramOnly", spec := "gramOnly", inPlace := ["internal/reflectlite.ValueOf", "(internal/reflectlite.Value).Type", "(internal/reflectlite.Value).IsNil", "internal/reflectlite.TypeOf", "(internal/reflectlite.Value).Elem", "(internal/reflectlite.Value).Set"], unfollowed := true, recurses := true, named := ["errors.errorType"], apart := false, laid := [("errors.errorType", laid_errors_errorType)] }
def GramOnlySaid : Prop := gramOnlyRow.holds Tryd.pinned (OpenSpec.ofChange gramOnlySpec)

/-- ITS FALSE NEIGHBOUR: 'it returns false'. Refute it at one input. -/
def gramOnlyWrong : ChangeSpec := { name := "gramOnly", fn := fun _ => fun
  | [d1, d2] => { results := [.lit (.bool false)], args := [d1, d2] }
  | _ => none }
def GramOnlyWrongFalsely : Prop := gramOnlyRow.holds Tryd.pinned (OpenSpec.ofChange gramOnlyWrong)

/-- 'stavelaw2.GramEnds': WHATEVER THE INPUT: true; the input reads as it did. -/
def gramEndsSpec : ChangeSpec := { name := "gramEnds", fn := fun _ => fun
  | [d1, d2, d3, d4] => { results := [.lit (.bool true)], args := [d1, d2, d3, d4] }
  | _ => none }
def gramEndsRow : OpenClaim := { program := "ytclojjiiiejfpaadoor", sum := "00ab0abcdded227f6819ce5d107886f631cfb1e1ced7b0c37684d7b880e75a18", func := "stave/stavelaw2.GramEnds", spec := "gramEnds", inPlace := ["internal/reflectlite.ValueOf", "(internal/reflectlite.Value).Type", "(internal/reflectlite.Value).IsNil", "internal/reflectlite.TypeOf", "(internal/reflectlite.Value).Elem", "(internal/reflectlite.Value).Set"], unfollowed := true, recurses := true, named := ["errors.errorType"], apart := false, laid := [("errors.errorType", laid_errors_errorType)] }
def GramEndsSaid : Prop := gramEndsRow.holds Tryd.pinned (OpenSpec.ofChange gramEndsSpec)

/-- ITS FALSE NEIGHBOUR: 'it returns false'. Refute it at one input. -/
def gramEndsWrong : ChangeSpec := { name := "gramEnds", fn := fun _ => fun
  | [d1, d2, d3, d4] => { results := [.lit (.bool false)], args := [d1, d2, d3, d4] }
  | _ => none }
def GramEndsWrongFalsely : Prop := gramEndsRow.holds Tryd.pinned (OpenSpec.ofChange gramEndsWrong)

/-- 'stavelaw2.GramJoins': WHATEVER THE INPUT: true; the input reads as it did. -/
def gramJoinsSpec : ChangeSpec := { name := "gramJoins", fn := fun _ => fun
  | [d1, d2, d3, d4] => { results := [.lit (.bool true)], args := [d1, d2, d3, d4] }
  | _ => none }
def gramJoinsRow : OpenClaim := { program := "ytclojjiiiejfpaadoor", sum := "00ab0abcdded227f6819ce5d107886f631cfb1e1ced7b0c37684d7b880e75a18", func := "stave/stavelaw2.GramJoins", spec := "gramJoins", inPlace := ["internal/reflectlite.ValueOf", "(internal/reflectlite.Value).Type", "(internal/reflectlite.Value).IsNil", "internal/reflectlite.TypeOf", "(internal/reflectlite.Value).Elem", "(internal/reflectlite.Value).Set"], unfollowed := true, recurses := true, named := ["errors.errorType"], apart := false, laid := [("errors.errorType", laid_errors_errorType)] }
def GramJoinsSaid : Prop := gramJoinsRow.holds Tryd.pinned (OpenSpec.ofChange gramJoinsSpec)

/-- ITS FALSE NEIGHBOUR: 'it returns false'. Refute it at one input. -/
def gramJoinsWrong : ChangeSpec := { name := "gramJoins", fn := fun _ => fun
  | [d1, d2, d3, d4] => { results := [.lit (.bool false)], args := [d1, d2, d3, d4] }
  | _ => none }
def GramJoinsWrongFalsely : Prop := gramJoinsRow.holds Tryd.pinned (OpenSpec.ofChange gramJoinsWrong)

/-- 'stavelaw2.GramTexts': WHATEVER THE INPUT: true; the input reads as it did. -/
def gramTextsSpec : ChangeSpec := { name := "gramTexts", fn := fun _ => fun
  | [d1, d2, d3, d4] => { results := [.lit (.bool true)], args := [d1, d2, d3, d4] }
  | _ => none }
def gramTextsRow : OpenClaim := { program := "ytclojjiiiejfpaadoor", sum := "00ab0abcdded227f6819ce5d107886f631cfb1e1ced7b0c37684d7b880e75a18", func := "stave/stavelaw2.GramTexts", spec := "gramTexts", inPlace := ["internal/reflectlite.ValueOf", "(internal/reflectlite.Value).Type", "(internal/reflectlite.Value).IsNil", "internal/reflectlite.TypeOf", "(internal/reflectlite.Value).Elem", "(internal/reflectlite.Value).Set"], unfollowed := true, recurses := true, named := ["errors.errorType"], apart := false, laid := [("errors.errorType", laid_errors_errorType)] }
def GramTextsSaid : Prop := gramTextsRow.holds Tryd.pinned (OpenSpec.ofChange gramTextsSpec)

/-- ITS FALSE NEIGHBOUR: 'it returns false'. Refute it at one input. -/
def gramTextsWrong : ChangeSpec := { name := "gramTexts", fn := fun _ => fun
  | [d1, d2, d3, d4] => { results := [.lit (.bool false)], args := [d1, d2, d3, d4] }
  | _ => none }
def GramTextsWrongFalsely : Prop := gramTextsRow.holds Tryd.pinned (OpenSpec.ofChange gramTextsWrong)

/-- 'stavelaw15.BatchRuns': WHATEVER THE INPUT: true; the input reads as it did. -/
def batchRunsSpec : ChangeSpec := { name := "batchRuns", fn := fun _ => fun
  | [] => { results := [.lit (.bool true)], args := [] }
  | _ => none }
def batchRunsRow : OpenClaim := { program := "ytclojjiiiejfpaadoor", sum := "00ab0abcdded227f6819ce5d107886f631cfb1e1ced7b0c37684d7b880e75a18", func := "stave/stavelaw15.BatchRuns", spec := "batchRuns", inPlace := ["internal/reflectlite.ValueOf", "(internal/reflectlite.Value).Type", "(internal/reflectlite.Value).IsNil", "internal/reflectlite.TypeOf", "(internal/reflectlite.Value).Elem", "(internal/reflectlite.Value).Set"], unfollowed := true, recurses := true, named := ["errors.errorType"], apart := false, laid := [("errors.errorType", laid_errors_errorType)] }
def BatchRunsSaid : Prop := batchRunsRow.holds Tryd.pinned (OpenSpec.ofChange batchRunsSpec)

/-- ITS FALSE NEIGHBOUR: 'it returns false'. Refute it at one input. -/
def batchRunsWrong : ChangeSpec := { name := "batchRuns", fn := fun _ => fun
  | [] => { results := [.lit (.bool false)], args := [] }
  | _ => none }
def BatchRunsWrongFalsely : Prop := batchRunsRow.holds Tryd.pinned (OpenSpec.ofChange batchRunsWrong)

/-- 'stavelaw15.BatchTells': WHATEVER THE INPUT: true; the input reads as it did. -/
def batchTellsSpec : ChangeSpec := { name := "batchTells", fn := fun _ => fun
  | [d1, d2, d3, d4] => { results := [.lit (.bool true)], args := [d1, d2, d3, d4] }
  | _ => none }
def batchTellsRow : OpenClaim := { program := "ytclojjiiiejfpaadoor", sum := "00ab0abcdded227f6819ce5d107886f631cfb1e1ced7b0c37684d7b880e75a18", func := "stave/stavelaw15.BatchTells", spec := "batchTells", inPlace := ["internal/reflectlite.ValueOf", "(internal/reflectlite.Value).Type", "(internal/reflectlite.Value).IsNil", "internal/reflectlite.TypeOf", "(internal/reflectlite.Value).Elem", "(internal/reflectlite.Value).Set"], unfollowed := true, recurses := true, named := ["errors.errorType"], apart := false, laid := [("errors.errorType", laid_errors_errorType)] }
def BatchTellsSaid : Prop := batchTellsRow.holds Tryd.pinned (OpenSpec.ofChange batchTellsSpec)

/-- ITS FALSE NEIGHBOUR: 'it returns false'. Refute it at one input. -/
def batchTellsWrong : ChangeSpec := { name := "batchTells", fn := fun _ => fun
  | [d1, d2, d3, d4] => { results := [.lit (.bool false)], args := [d1, d2, d3, d4] }
  | _ => none }
def BatchTellsWrongFalsely : Prop := batchTellsRow.holds Tryd.pinned (OpenSpec.ofChange batchTellsWrong)

/-- 'stavelaw15.BatchBack': WHATEVER THE INPUT: true; the input reads as it did. -/
def batchBackSpec : ChangeSpec := { name := "batchBack", fn := fun _ => fun
  | [d1, d2, d3, d4] => { results := [.lit (.bool true)], args := [d1, d2, d3, d4] }
  | _ => none }
def batchBackRow : OpenClaim := { program := "ytclojjiiiejfpaadoor", sum := "00ab0abcdded227f6819ce5d107886f631cfb1e1ced7b0c37684d7b880e75a18", func := "stave/stavelaw15.BatchBack", spec := "batchBack", inPlace := ["internal/reflectlite.ValueOf", "(internal/reflectlite.Value).Type", "(internal/reflectlite.Value).IsNil", "internal/reflectlite.TypeOf", "(internal/reflectlite.Value).Elem", "(internal/reflectlite.Value).Set"], unfollowed := true, recurses := true, named := ["errors.errorType"], apart := false, laid := [("errors.errorType", laid_errors_errorType)] }
def BatchBackSaid : Prop := batchBackRow.holds Tryd.pinned (OpenSpec.ofChange batchBackSpec)

/-- ITS FALSE NEIGHBOUR: 'it returns false'. Refute it at one input. -/
def batchBackWrong : ChangeSpec := { name := "batchBack", fn := fun _ => fun
  | [d1, d2, d3, d4] => { results := [.lit (.bool false)], args := [d1, d2, d3, d4] }
  | _ => none }
def BatchBackWrongFalsely : Prop := batchBackRow.holds Tryd.pinned (OpenSpec.ofChange batchBackWrong)

/-- 'stavelaw15.BatchEnds': WHATEVER THE INPUT: true; the input reads as it did. -/
def batchEndsSpec : ChangeSpec := { name := "batchEnds", fn := fun _ => fun
  | [d1, d2, d3] => { results := [.lit (.bool true)], args := [d1, d2, d3] }
  | _ => none }
def batchEndsRow : OpenClaim := { program := "ytclojjiiiejfpaadoor", sum := "00ab0abcdded227f6819ce5d107886f631cfb1e1ced7b0c37684d7b880e75a18", func := "stave/stavelaw15.BatchEnds", spec := "batchEnds", inPlace := ["internal/reflectlite.ValueOf", "(internal/reflectlite.Value).Type", "(internal/reflectlite.Value).IsNil", "internal/reflectlite.TypeOf", "(internal/reflectlite.Value).Elem", "(internal/reflectlite.Value).Set"], unfollowed := true, recurses := true, named := ["errors.errorType"], apart := false, laid := [("errors.errorType", laid_errors_errorType)] }
def BatchEndsSaid : Prop := batchEndsRow.holds Tryd.pinned (OpenSpec.ofChange batchEndsSpec)

/-- ITS FALSE NEIGHBOUR: 'it returns false'. Refute it at one input. -/
def batchEndsWrong : ChangeSpec := { name := "batchEnds", fn := fun _ => fun
  | [d1, d2, d3] => { results := [.lit (.bool false)], args := [d1, d2, d3] }
  | _ => none }
def BatchEndsWrongFalsely : Prop := batchEndsRow.holds Tryd.pinned (OpenSpec.ofChange batchEndsWrong)

/-- 'stavelaw15.BatchOnly': WHATEVER THE INPUT: true; the input reads as it did. -/
def batchOnlySpec : ChangeSpec := { name := "batchOnly", fn := fun _ => fun
  | [d1, d2, d3, d4] => { results := [.lit (.bool true)], args := [d1, d2, d3, d4] }
  | _ => none }
def batchOnlyRow : OpenClaim := { program := "ytclojjiiiejfpaadoor", sum := "00ab0abcdded227f6819ce5d107886f631cfb1e1ced7b0c37684d7b880e75a18", func := "stave/stavelaw15.BatchOnly", spec := "batchOnly", inPlace := ["internal/reflectlite.ValueOf", "(internal/reflectlite.Value).Type", "(internal/reflectlite.Value).IsNil", "internal/reflectlite.TypeOf", "(internal/reflectlite.Value).Elem", "(internal/reflectlite.Value).Set"], unfollowed := true, recurses := true, named := ["errors.errorType"], apart := false, laid := [("errors.errorType", laid_errors_errorType)] }
def BatchOnlySaid : Prop := batchOnlyRow.holds Tryd.pinned (OpenSpec.ofChange batchOnlySpec)

/-- ITS FALSE NEIGHBOUR: 'it returns false'. Refute it at one input. -/
def batchOnlyWrong : ChangeSpec := { name := "batchOnly", fn := fun _ => fun
  | [d1, d2, d3, d4] => { results := [.lit (.bool false)], args := [d1, d2, d3, d4] }
  | _ => none }
def BatchOnlyWrongFalsely : Prop := batchOnlyRow.holds Tryd.pinned (OpenSpec.ofChange batchOnlyWrong)

/- THE SECOND FORM. 'bulk': how many values and letters a reading holds, each counted each time it is reached (what is shared counts as often as it is met; a slice's spare places count too). A statement '..UptoSaid' is the law's where the arguments, and the package variables that the reading takes, are together of bulk at most 1048576: NARROWER than '..Said'. Prove '..Said' where nothing that the law and all that it calls make is longer than what came in: it says more and counts as full. Else prove '..UptoSaid'. A law counts once. -/
mutual
def uptoBulk {H : Type} : DataW H → Nat
  | .lit (.string bytes) => bytes.length + 1
  | .lit _ => 1
  | .nil => 1
  | .ptr d => uptoBulk d + 1
  | .slice elems spare => uptoBulkAll elems + uptoBulkAll spare + 1
  | .agg parts => uptoBulkAll parts + 1
  | .iface _ d => uptoBulk d + 1
  | .map entries => uptoBulkEntries entries + 1
  | .held _ => 1
def uptoBulkAll {H : Type} : List (DataW H) → Nat
  | [] => 0
  | d :: r => uptoBulk d + uptoBulkAll r
def uptoBulkEntries {H : Type} : List (Lit × DataW H) → Nat
  | [] => 0
  | x :: r => uptoBulkEntry x + uptoBulkEntries r
def uptoBulkEntry {H : Type} : Lit × DataW H → Nat
  | (.string bytes, d) => bytes.length + uptoBulk d + 1
  | (_, d) => uptoBulk d + 1
 end
def uptoSmall : (H : Type) → List (DataW H) → Bool := fun _ ds => decide (uptoBulkAll ds ≤ 1048576)
def OpenSpec.upto (s : _root_.Go.ChangeSpec) : _root_.Go.OpenSpec := { _root_.Go.OpenSpec.ofChange s with cond := some uptoSmall }

/-- 'stavelaw2.GramRuns', WHERE WHAT IT READS IS OF BULK AT MOST 1048576: true; the input reads as it did. -/
def gramRunsUptoRow : OpenClaim := { program := "ytclojjiiiejfpaadoor", sum := "00ab0abcdded227f6819ce5d107886f631cfb1e1ced7b0c37684d7b880e75a18", func := "stave/stavelaw2.GramRuns", spec := "gramRuns", inPlace := ["internal/reflectlite.ValueOf", "(internal/reflectlite.Value).Type", "(internal/reflectlite.Value).IsNil", "internal/reflectlite.TypeOf", "(internal/reflectlite.Value).Elem", "(internal/reflectlite.Value).Set"], unfollowed := true, recurses := true, named := ["errors.errorType"], apart := false, laid := [("errors.errorType", laid_errors_errorType)], narrowed := true }
def GramRunsUptoSaid : Prop := gramRunsUptoRow.holds Tryd.pinned (OpenSpec.upto gramRunsSpec)

/-- 'stavelaw2.GramTells', WHERE WHAT IT READS IS OF BULK AT MOST 1048576: true; the input reads as it did. -/
def gramTellsUptoRow : OpenClaim := { program := "ytclojjiiiejfpaadoor", sum := "00ab0abcdded227f6819ce5d107886f631cfb1e1ced7b0c37684d7b880e75a18", func := "stave/stavelaw2.GramTells", spec := "gramTells", inPlace := ["internal/reflectlite.ValueOf", "(internal/reflectlite.Value).Type", "(internal/reflectlite.Value).IsNil", "internal/reflectlite.TypeOf", "(internal/reflectlite.Value).Elem", "(internal/reflectlite.Value).Set"], unfollowed := true, recurses := true, named := ["errors.errorType"], apart := false, laid := [("errors.errorType", laid_errors_errorType)], narrowed := true }
def GramTellsUptoSaid : Prop := gramTellsUptoRow.holds Tryd.pinned (OpenSpec.upto gramTellsSpec)

/-- 'stavelaw2.GramReads', WHERE WHAT IT READS IS OF BULK AT MOST 1048576: true; the input reads as it did. -/
def gramReadsUptoRow : OpenClaim := { program := "ytclojjiiiejfpaadoor", sum := "00ab0abcdded227f6819ce5d107886f631cfb1e1ced7b0c37684d7b880e75a18", func := "stave/stavelaw2.GramReads", spec := "gramReads", inPlace := ["internal/reflectlite.ValueOf", "(internal/reflectlite.Value).Type", "(internal/reflectlite.Value).IsNil", "internal/reflectlite.TypeOf", "(internal/reflectlite.Value).Elem", "(internal/reflectlite.Value).Set"], unfollowed := true, recurses := true, named := ["errors.errorType"], apart := false, laid := [("errors.errorType", laid_errors_errorType)], narrowed := true }
def GramReadsUptoSaid : Prop := gramReadsUptoRow.holds Tryd.pinned (OpenSpec.upto gramReadsSpec)

/-- 'stavelaw2.GramBack', WHERE WHAT IT READS IS OF BULK AT MOST 1048576: true; the input reads as it did. -/
def gramBackUptoRow : OpenClaim := { program := "ytclojjiiiejfpaadoor", sum := "00ab0abcdded227f6819ce5d107886f631cfb1e1ced7b0c37684d7b880e75a18", func := "stave/stavelaw2.GramBack", spec := "gramBack", inPlace := ["internal/reflectlite.ValueOf", "(internal/reflectlite.Value).Type", "(internal/reflectlite.Value).IsNil", "internal/reflectlite.TypeOf", "(internal/reflectlite.Value).Elem", "(internal/reflectlite.Value).Set"], unfollowed := true, recurses := true, named := ["errors.errorType"], apart := false, laid := [("errors.errorType", laid_errors_errorType)], narrowed := true }
def GramBackUptoSaid : Prop := gramBackUptoRow.holds Tryd.pinned (OpenSpec.upto gramBackSpec)

/-- 'stavelaw2.GramOnly', WHERE WHAT IT READS IS OF BULK AT MOST 1048576: true; the input reads as it did. -/
def gramOnlyUptoRow : OpenClaim := { program := "ytclojjiiiejfpaadoor", sum := "00ab0abcdded227f6819ce5d107886f631cfb1e1ced7b0c37684d7b880e75a18", func := "stave/stavelaw2.GramOnly", spec := "gramOnly", inPlace := ["internal/reflectlite.ValueOf", "(internal/reflectlite.Value).Type", "(internal/reflectlite.Value).IsNil", "internal/reflectlite.TypeOf", "(internal/reflectlite.Value).Elem", "(internal/reflectlite.Value).Set"], unfollowed := true, recurses := true, named := ["errors.errorType"], apart := false, laid := [("errors.errorType", laid_errors_errorType)], narrowed := true }
def GramOnlyUptoSaid : Prop := gramOnlyUptoRow.holds Tryd.pinned (OpenSpec.upto gramOnlySpec)

/-- 'stavelaw2.GramEnds', WHERE WHAT IT READS IS OF BULK AT MOST 1048576: true; the input reads as it did. -/
def gramEndsUptoRow : OpenClaim := { program := "ytclojjiiiejfpaadoor", sum := "00ab0abcdded227f6819ce5d107886f631cfb1e1ced7b0c37684d7b880e75a18", func := "stave/stavelaw2.GramEnds", spec := "gramEnds", inPlace := ["internal/reflectlite.ValueOf", "(internal/reflectlite.Value).Type", "(internal/reflectlite.Value).IsNil", "internal/reflectlite.TypeOf", "(internal/reflectlite.Value).Elem", "(internal/reflectlite.Value).Set"], unfollowed := true, recurses := true, named := ["errors.errorType"], apart := false, laid := [("errors.errorType", laid_errors_errorType)], narrowed := true }
def GramEndsUptoSaid : Prop := gramEndsUptoRow.holds Tryd.pinned (OpenSpec.upto gramEndsSpec)

/-- 'stavelaw2.GramJoins', WHERE WHAT IT READS IS OF BULK AT MOST 1048576: true; the input reads as it did. -/
def gramJoinsUptoRow : OpenClaim := { program := "ytclojjiiiejfpaadoor", sum := "00ab0abcdded227f6819ce5d107886f631cfb1e1ced7b0c37684d7b880e75a18", func := "stave/stavelaw2.GramJoins", spec := "gramJoins", inPlace := ["internal/reflectlite.ValueOf", "(internal/reflectlite.Value).Type", "(internal/reflectlite.Value).IsNil", "internal/reflectlite.TypeOf", "(internal/reflectlite.Value).Elem", "(internal/reflectlite.Value).Set"], unfollowed := true, recurses := true, named := ["errors.errorType"], apart := false, laid := [("errors.errorType", laid_errors_errorType)], narrowed := true }
def GramJoinsUptoSaid : Prop := gramJoinsUptoRow.holds Tryd.pinned (OpenSpec.upto gramJoinsSpec)

/-- 'stavelaw2.GramTexts', WHERE WHAT IT READS IS OF BULK AT MOST 1048576: true; the input reads as it did. -/
def gramTextsUptoRow : OpenClaim := { program := "ytclojjiiiejfpaadoor", sum := "00ab0abcdded227f6819ce5d107886f631cfb1e1ced7b0c37684d7b880e75a18", func := "stave/stavelaw2.GramTexts", spec := "gramTexts", inPlace := ["internal/reflectlite.ValueOf", "(internal/reflectlite.Value).Type", "(internal/reflectlite.Value).IsNil", "internal/reflectlite.TypeOf", "(internal/reflectlite.Value).Elem", "(internal/reflectlite.Value).Set"], unfollowed := true, recurses := true, named := ["errors.errorType"], apart := false, laid := [("errors.errorType", laid_errors_errorType)], narrowed := true }
def GramTextsUptoSaid : Prop := gramTextsUptoRow.holds Tryd.pinned (OpenSpec.upto gramTextsSpec)

/-- 'stavelaw15.BatchRuns', WHERE WHAT IT READS IS OF BULK AT MOST 1048576: true; the input reads as it did. -/
def batchRunsUptoRow : OpenClaim := { program := "ytclojjiiiejfpaadoor", sum := "00ab0abcdded227f6819ce5d107886f631cfb1e1ced7b0c37684d7b880e75a18", func := "stave/stavelaw15.BatchRuns", spec := "batchRuns", inPlace := ["internal/reflectlite.ValueOf", "(internal/reflectlite.Value).Type", "(internal/reflectlite.Value).IsNil", "internal/reflectlite.TypeOf", "(internal/reflectlite.Value).Elem", "(internal/reflectlite.Value).Set"], unfollowed := true, recurses := true, named := ["errors.errorType"], apart := false, laid := [("errors.errorType", laid_errors_errorType)], narrowed := true }
def BatchRunsUptoSaid : Prop := batchRunsUptoRow.holds Tryd.pinned (OpenSpec.upto batchRunsSpec)

/-- 'stavelaw15.BatchTells', WHERE WHAT IT READS IS OF BULK AT MOST 1048576: true; the input reads as it did. -/
def batchTellsUptoRow : OpenClaim := { program := "ytclojjiiiejfpaadoor", sum := "00ab0abcdded227f6819ce5d107886f631cfb1e1ced7b0c37684d7b880e75a18", func := "stave/stavelaw15.BatchTells", spec := "batchTells", inPlace := ["internal/reflectlite.ValueOf", "(internal/reflectlite.Value).Type", "(internal/reflectlite.Value).IsNil", "internal/reflectlite.TypeOf", "(internal/reflectlite.Value).Elem", "(internal/reflectlite.Value).Set"], unfollowed := true, recurses := true, named := ["errors.errorType"], apart := false, laid := [("errors.errorType", laid_errors_errorType)], narrowed := true }
def BatchTellsUptoSaid : Prop := batchTellsUptoRow.holds Tryd.pinned (OpenSpec.upto batchTellsSpec)

/-- 'stavelaw15.BatchBack', WHERE WHAT IT READS IS OF BULK AT MOST 1048576: true; the input reads as it did. -/
def batchBackUptoRow : OpenClaim := { program := "ytclojjiiiejfpaadoor", sum := "00ab0abcdded227f6819ce5d107886f631cfb1e1ced7b0c37684d7b880e75a18", func := "stave/stavelaw15.BatchBack", spec := "batchBack", inPlace := ["internal/reflectlite.ValueOf", "(internal/reflectlite.Value).Type", "(internal/reflectlite.Value).IsNil", "internal/reflectlite.TypeOf", "(internal/reflectlite.Value).Elem", "(internal/reflectlite.Value).Set"], unfollowed := true, recurses := true, named := ["errors.errorType"], apart := false, laid := [("errors.errorType", laid_errors_errorType)], narrowed := true }
def BatchBackUptoSaid : Prop := batchBackUptoRow.holds Tryd.pinned (OpenSpec.upto batchBackSpec)

/-- 'stavelaw15.BatchEnds', WHERE WHAT IT READS IS OF BULK AT MOST 1048576: true; the input reads as it did. -/
def batchEndsUptoRow : OpenClaim := { program := "ytclojjiiiejfpaadoor", sum := "00ab0abcdded227f6819ce5d107886f631cfb1e1ced7b0c37684d7b880e75a18", func := "stave/stavelaw15.BatchEnds", spec := "batchEnds", inPlace := ["internal/reflectlite.ValueOf", "(internal/reflectlite.Value).Type", "(internal/reflectlite.Value).IsNil", "internal/reflectlite.TypeOf", "(internal/reflectlite.Value).Elem", "(internal/reflectlite.Value).Set"], unfollowed := true, recurses := true, named := ["errors.errorType"], apart := false, laid := [("errors.errorType", laid_errors_errorType)], narrowed := true }
def BatchEndsUptoSaid : Prop := batchEndsUptoRow.holds Tryd.pinned (OpenSpec.upto batchEndsSpec)

/-- 'stavelaw15.BatchOnly', WHERE WHAT IT READS IS OF BULK AT MOST 1048576: true; the input reads as it did. -/
def batchOnlyUptoRow : OpenClaim := { program := "ytclojjiiiejfpaadoor", sum := "00ab0abcdded227f6819ce5d107886f631cfb1e1ced7b0c37684d7b880e75a18", func := "stave/stavelaw15.BatchOnly", spec := "batchOnly", inPlace := ["internal/reflectlite.ValueOf", "(internal/reflectlite.Value).Type", "(internal/reflectlite.Value).IsNil", "internal/reflectlite.TypeOf", "(internal/reflectlite.Value).Elem", "(internal/reflectlite.Value).Set"], unfollowed := true, recurses := true, named := ["errors.errorType"], apart := false, laid := [("errors.errorType", laid_errors_errorType)], narrowed := true }
def BatchOnlyUptoSaid : Prop := batchOnlyUptoRow.holds Tryd.pinned (OpenSpec.upto batchOnlySpec)

end Rows
end Go.Proofs.YtclojjiiiejfpaaDoor
