/-
  NARROWER THAN 'FOR EVERY INPUT', by the rows' own cells (each row's printed sentence says how): CodeRuns: laid · CodeTells: laid · CodeSystem: laid · CodeBytes: laid · CodeFirst: laid · CodeDecodes: laid · CodeBack: laid · CodeDelta: laid · CodeFew: laid.
  DERIVED. THE GIVEN ROWS OF THIS SEAT. 9 by the template 'for every input the law returns true; each argument reads behind the call as it read before'; 0 by the template 'total and deterministic' (their statements: YtoanmeohlpdjfaaDoorTotals.lean).
  GIVEN WITH THE SEED: the statements are not yours to turn. If you find one false, say at which input.
  Laid BY PROGRAM, IN A SANDBOX (cutbox-rows.mjs): the forced cells as the released guide's own fill.sh prints them over the translation d8eed91c2e707d29… (all of the seat's roots in one cut). By AI agents, Wed Nov 11 2026. No macro, syntax, notation, axiom, sorry.
-/
import Derived.Test.YtoanmeohlpdjfaaDoorChecked
import GoSem.Claim
import GoSem.ClaimJoined
import GoSem.ClaimMapViews
import Derived.JoinedTies
import Derived.KernelRfl
namespace Go.Proofs.YtoanmeohlpdjfaaDoor
/- THE CELL 'sum', in the pinned program and in every row, IS THE sha256 OF THE DUMP (.gsa) THAT YtoanmeohlpdjfaaDoorProg.lean LOADS. Nothing in Lean hashes anything: it is a label: what it is worth is what the hold of that sum in a sandbox is worth. -/
noncomputable def Tryd.pinned : Pinned := { name := "ytoanmeohlpdjfaadoor", sum := "d8eed91c2e707d29e450907c945c443c7d7ad6de5bbd076d811c92e5c42d1cc9", checked := Tryd.checked }
namespace Rows
def none {H : Type} : Left H := { results := [], args := [] }

/- WHAT THE LISTED PACKAGE-LEVEL VARIABLES READ AS WHEN THE CALL BEGINS. Each datum BY PROGRAM (the guide's laid-datum.mjs) off the statement by which the dump's own 'gosem.cut.vars' lays the variable. In a bare row this is a premise. The card (YtoanmeohlpdjfaaDoorCards.lean) ties it to the program's text. -/
def laid_errors_errorType {H : Type} : DataW H := .iface "internal/reflectlite.rtype" (.agg [.ptr (.lit (.string [101, 114, 114, 111, 114]))])

/-- 'stavelaw4.CodeRuns': WHATEVER THE INPUT: true; the input reads as it did. -/
def codeRunsSpec : ChangeSpec := { name := "codeRuns", fn := fun _ => fun
  | [] => { results := [.lit (.bool true)], args := [] }
  | _ => none }
def codeRunsRow : OpenClaim := { program := "ytoanmeohlpdjfaadoor", sum := "d8eed91c2e707d29e450907c945c443c7d7ad6de5bbd076d811c92e5c42d1cc9", func := "stave/stavelaw4.CodeRuns", spec := "codeRuns", inPlace := ["internal/reflectlite.ValueOf", "(internal/reflectlite.Value).Type", "(internal/reflectlite.Value).IsNil", "internal/reflectlite.TypeOf", "(internal/reflectlite.Value).Elem", "(internal/reflectlite.Value).Set"], unfollowed := true, recurses := true, named := ["errors.errorType"], apart := false, laid := [("errors.errorType", laid_errors_errorType)] }
def CodeRunsSaid : Prop := codeRunsRow.holds Tryd.pinned (OpenSpec.ofChange codeRunsSpec)

/-- ITS FALSE NEIGHBOUR: 'it returns false'. Refute it at one input. -/
def codeRunsWrong : ChangeSpec := { name := "codeRuns", fn := fun _ => fun
  | [] => { results := [.lit (.bool false)], args := [] }
  | _ => none }
def CodeRunsWrongFalsely : Prop := codeRunsRow.holds Tryd.pinned (OpenSpec.ofChange codeRunsWrong)

/-- 'stavelaw4.CodeTells': WHATEVER THE INPUT: true; the input reads as it did. -/
def codeTellsSpec : ChangeSpec := { name := "codeTells", fn := fun _ => fun
  | [d1, d2, d3] => { results := [.lit (.bool true)], args := [d1, d2, d3] }
  | _ => none }
def codeTellsRow : OpenClaim := { program := "ytoanmeohlpdjfaadoor", sum := "d8eed91c2e707d29e450907c945c443c7d7ad6de5bbd076d811c92e5c42d1cc9", func := "stave/stavelaw4.CodeTells", spec := "codeTells", inPlace := ["internal/reflectlite.ValueOf", "(internal/reflectlite.Value).Type", "(internal/reflectlite.Value).IsNil", "internal/reflectlite.TypeOf", "(internal/reflectlite.Value).Elem", "(internal/reflectlite.Value).Set"], unfollowed := true, recurses := true, named := ["errors.errorType"], apart := false, laid := [("errors.errorType", laid_errors_errorType)] }
def CodeTellsSaid : Prop := codeTellsRow.holds Tryd.pinned (OpenSpec.ofChange codeTellsSpec)

/-- ITS FALSE NEIGHBOUR: 'it returns false'. Refute it at one input. -/
def codeTellsWrong : ChangeSpec := { name := "codeTells", fn := fun _ => fun
  | [d1, d2, d3] => { results := [.lit (.bool false)], args := [d1, d2, d3] }
  | _ => none }
def CodeTellsWrongFalsely : Prop := codeTellsRow.holds Tryd.pinned (OpenSpec.ofChange codeTellsWrong)

/-- 'stavelaw4.CodeSystem': WHATEVER THE INPUT: true; the input reads as it did. -/
def codeSystemSpec : ChangeSpec := { name := "codeSystem", fn := fun _ => fun
  | [d1, d2, d3, d4, d5] => { results := [.lit (.bool true)], args := [d1, d2, d3, d4, d5] }
  | _ => none }
def codeSystemRow : OpenClaim := { program := "ytoanmeohlpdjfaadoor", sum := "d8eed91c2e707d29e450907c945c443c7d7ad6de5bbd076d811c92e5c42d1cc9", func := "stave/stavelaw4.CodeSystem", spec := "codeSystem", inPlace := ["internal/reflectlite.ValueOf", "(internal/reflectlite.Value).Type", "(internal/reflectlite.Value).IsNil", "internal/reflectlite.TypeOf", "(internal/reflectlite.Value).Elem", "(internal/reflectlite.Value).Set"], unfollowed := true, recurses := true, named := ["errors.errorType"], apart := false, laid := [("errors.errorType", laid_errors_errorType)] }
def CodeSystemSaid : Prop := codeSystemRow.holds Tryd.pinned (OpenSpec.ofChange codeSystemSpec)

/-- ITS FALSE NEIGHBOUR: 'it returns false'. Refute it at one input. -/
def codeSystemWrong : ChangeSpec := { name := "codeSystem", fn := fun _ => fun
  | [d1, d2, d3, d4, d5] => { results := [.lit (.bool false)], args := [d1, d2, d3, d4, d5] }
  | _ => none }
def CodeSystemWrongFalsely : Prop := codeSystemRow.holds Tryd.pinned (OpenSpec.ofChange codeSystemWrong)

/-- 'stavelaw4.CodeBytes': WHATEVER THE INPUT: true; the input reads as it did. -/
def codeBytesSpec : ChangeSpec := { name := "codeBytes", fn := fun _ => fun
  | [d1, d2, d3, d4, d5, d6] => { results := [.lit (.bool true)], args := [d1, d2, d3, d4, d5, d6] }
  | _ => none }
def codeBytesRow : OpenClaim := { program := "ytoanmeohlpdjfaadoor", sum := "d8eed91c2e707d29e450907c945c443c7d7ad6de5bbd076d811c92e5c42d1cc9", func := "stave/stavelaw4.CodeBytes", spec := "codeBytes", inPlace := ["internal/reflectlite.ValueOf", "(internal/reflectlite.Value).Type", "(internal/reflectlite.Value).IsNil", "internal/reflectlite.TypeOf", "(internal/reflectlite.Value).Elem", "(internal/reflectlite.Value).Set"], unfollowed := true, recurses := true, named := ["errors.errorType"], apart := false, laid := [("errors.errorType", laid_errors_errorType)] }
def CodeBytesSaid : Prop := codeBytesRow.holds Tryd.pinned (OpenSpec.ofChange codeBytesSpec)

/-- ITS FALSE NEIGHBOUR: 'it returns false'. Refute it at one input. -/
def codeBytesWrong : ChangeSpec := { name := "codeBytes", fn := fun _ => fun
  | [d1, d2, d3, d4, d5, d6] => { results := [.lit (.bool false)], args := [d1, d2, d3, d4, d5, d6] }
  | _ => none }
def CodeBytesWrongFalsely : Prop := codeBytesRow.holds Tryd.pinned (OpenSpec.ofChange codeBytesWrong)

/-- 'stavelaw4.CodeFirst': WHATEVER THE INPUT: true; the input reads as it did. -/
def codeFirstSpec : ChangeSpec := { name := "codeFirst", fn := fun _ => fun
  | [d1, d2, d3, d4, d5, d6] => { results := [.lit (.bool true)], args := [d1, d2, d3, d4, d5, d6] }
  | _ => none }
def codeFirstRow : OpenClaim := { program := "ytoanmeohlpdjfaadoor", sum := "d8eed91c2e707d29e450907c945c443c7d7ad6de5bbd076d811c92e5c42d1cc9", func := "stave/stavelaw4.CodeFirst", spec := "codeFirst", inPlace := ["internal/reflectlite.ValueOf", "(internal/reflectlite.Value).Type", "(internal/reflectlite.Value).IsNil", "internal/reflectlite.TypeOf", "(internal/reflectlite.Value).Elem", "(internal/reflectlite.Value).Set"], unfollowed := true, recurses := true, named := ["errors.errorType"], apart := false, laid := [("errors.errorType", laid_errors_errorType)] }
def CodeFirstSaid : Prop := codeFirstRow.holds Tryd.pinned (OpenSpec.ofChange codeFirstSpec)

/-- ITS FALSE NEIGHBOUR: 'it returns false'. Refute it at one input. -/
def codeFirstWrong : ChangeSpec := { name := "codeFirst", fn := fun _ => fun
  | [d1, d2, d3, d4, d5, d6] => { results := [.lit (.bool false)], args := [d1, d2, d3, d4, d5, d6] }
  | _ => none }
def CodeFirstWrongFalsely : Prop := codeFirstRow.holds Tryd.pinned (OpenSpec.ofChange codeFirstWrong)

/-- 'stavelaw4.CodeDecodes': WHATEVER THE INPUT: true; the input reads as it did. -/
def codeDecodesSpec : ChangeSpec := { name := "codeDecodes", fn := fun _ => fun
  | [d1, d2, d3, d4, d5] => { results := [.lit (.bool true)], args := [d1, d2, d3, d4, d5] }
  | _ => none }
def codeDecodesRow : OpenClaim := { program := "ytoanmeohlpdjfaadoor", sum := "d8eed91c2e707d29e450907c945c443c7d7ad6de5bbd076d811c92e5c42d1cc9", func := "stave/stavelaw4.CodeDecodes", spec := "codeDecodes", inPlace := ["internal/reflectlite.ValueOf", "(internal/reflectlite.Value).Type", "(internal/reflectlite.Value).IsNil", "internal/reflectlite.TypeOf", "(internal/reflectlite.Value).Elem", "(internal/reflectlite.Value).Set"], unfollowed := true, recurses := true, named := ["errors.errorType"], apart := false, laid := [("errors.errorType", laid_errors_errorType)] }
def CodeDecodesSaid : Prop := codeDecodesRow.holds Tryd.pinned (OpenSpec.ofChange codeDecodesSpec)

/-- ITS FALSE NEIGHBOUR: 'it returns false'. Refute it at one input. -/
def codeDecodesWrong : ChangeSpec := { name := "codeDecodes", fn := fun _ => fun
  | [d1, d2, d3, d4, d5] => { results := [.lit (.bool false)], args := [d1, d2, d3, d4, d5] }
  | _ => none }
def CodeDecodesWrongFalsely : Prop := codeDecodesRow.holds Tryd.pinned (OpenSpec.ofChange codeDecodesWrong)

/-- 'stavelaw4.CodeBack': WHATEVER THE INPUT: true; the input reads as it did. -/
def codeBackSpec : ChangeSpec := { name := "codeBack", fn := fun _ => fun
  | [d1, d2, d3, d4, d5] => { results := [.lit (.bool true)], args := [d1, d2, d3, d4, d5] }
  | _ => none }
def codeBackRow : OpenClaim := { program := "ytoanmeohlpdjfaadoor", sum := "d8eed91c2e707d29e450907c945c443c7d7ad6de5bbd076d811c92e5c42d1cc9", func := "stave/stavelaw4.CodeBack", spec := "codeBack", inPlace := ["internal/reflectlite.ValueOf", "(internal/reflectlite.Value).Type", "(internal/reflectlite.Value).IsNil", "internal/reflectlite.TypeOf", "(internal/reflectlite.Value).Elem", "(internal/reflectlite.Value).Set"], unfollowed := true, recurses := true, named := ["errors.errorType"], apart := false, laid := [("errors.errorType", laid_errors_errorType)] }
def CodeBackSaid : Prop := codeBackRow.holds Tryd.pinned (OpenSpec.ofChange codeBackSpec)

/-- ITS FALSE NEIGHBOUR: 'it returns false'. Refute it at one input. -/
def codeBackWrong : ChangeSpec := { name := "codeBack", fn := fun _ => fun
  | [d1, d2, d3, d4, d5] => { results := [.lit (.bool false)], args := [d1, d2, d3, d4, d5] }
  | _ => none }
def CodeBackWrongFalsely : Prop := codeBackRow.holds Tryd.pinned (OpenSpec.ofChange codeBackWrong)

/-- 'stavelaw4.CodeDelta': WHATEVER THE INPUT: true; the input reads as it did. -/
def codeDeltaSpec : ChangeSpec := { name := "codeDelta", fn := fun _ => fun
  | [d1, d2, d3, d4, d5, d6] => { results := [.lit (.bool true)], args := [d1, d2, d3, d4, d5, d6] }
  | _ => none }
def codeDeltaRow : OpenClaim := { program := "ytoanmeohlpdjfaadoor", sum := "d8eed91c2e707d29e450907c945c443c7d7ad6de5bbd076d811c92e5c42d1cc9", func := "stave/stavelaw4.CodeDelta", spec := "codeDelta", inPlace := ["internal/reflectlite.ValueOf", "(internal/reflectlite.Value).Type", "(internal/reflectlite.Value).IsNil", "internal/reflectlite.TypeOf", "(internal/reflectlite.Value).Elem", "(internal/reflectlite.Value).Set"], unfollowed := true, recurses := true, named := ["errors.errorType"], apart := false, laid := [("errors.errorType", laid_errors_errorType)] }
def CodeDeltaSaid : Prop := codeDeltaRow.holds Tryd.pinned (OpenSpec.ofChange codeDeltaSpec)

/-- ITS FALSE NEIGHBOUR: 'it returns false'. Refute it at one input. -/
def codeDeltaWrong : ChangeSpec := { name := "codeDelta", fn := fun _ => fun
  | [d1, d2, d3, d4, d5, d6] => { results := [.lit (.bool false)], args := [d1, d2, d3, d4, d5, d6] }
  | _ => none }
def CodeDeltaWrongFalsely : Prop := codeDeltaRow.holds Tryd.pinned (OpenSpec.ofChange codeDeltaWrong)

/-- 'stavelaw4.CodeFew': WHATEVER THE INPUT: true; the input reads as it did. -/
def codeFewSpec : ChangeSpec := { name := "codeFew", fn := fun _ => fun
  | [d1, d2, d3, d4, d5, d6] => { results := [.lit (.bool true)], args := [d1, d2, d3, d4, d5, d6] }
  | _ => none }
def codeFewRow : OpenClaim := { program := "ytoanmeohlpdjfaadoor", sum := "d8eed91c2e707d29e450907c945c443c7d7ad6de5bbd076d811c92e5c42d1cc9", func := "stave/stavelaw4.CodeFew", spec := "codeFew", inPlace := ["internal/reflectlite.ValueOf", "(internal/reflectlite.Value).Type", "(internal/reflectlite.Value).IsNil", "internal/reflectlite.TypeOf", "(internal/reflectlite.Value).Elem", "(internal/reflectlite.Value).Set"], unfollowed := true, recurses := true, named := ["errors.errorType"], apart := false, laid := [("errors.errorType", laid_errors_errorType)] }
def CodeFewSaid : Prop := codeFewRow.holds Tryd.pinned (OpenSpec.ofChange codeFewSpec)

/-- ITS FALSE NEIGHBOUR: 'it returns false'. Refute it at one input. -/
def codeFewWrong : ChangeSpec := { name := "codeFew", fn := fun _ => fun
  | [d1, d2, d3, d4, d5, d6] => { results := [.lit (.bool false)], args := [d1, d2, d3, d4, d5, d6] }
  | _ => none }
def CodeFewWrongFalsely : Prop := codeFewRow.holds Tryd.pinned (OpenSpec.ofChange codeFewWrong)

/- THE SECOND FORM. 'bulk': how many values and letters a reading holds, each counted each time it is reached (what is shared counts as often as it is met; a slice's spare places count too). A statement '..UptoSaid' is the law's where the arguments, and the package variables that the reading takes, are together of bulk at most 1048576: NARROWER than '..Said'. Prove '..Said' where nothing that the law and all that it calls make is longer than what came in: it says more and counts as full. Else prove '..UptoSaid'. A law counts once. -/
mutual
def uptoBulk {H : Type} : DataW H → Nat
  | .lit (.string bytes) => bytes.length + 1
  | .lit _ => 1
  | .nil => 1
  | .ptr d => uptoBulk d + 1
  | .slice elems spare => uptoBulkAll elems + uptoBulkAll spare + 1
  | .agg parts => uptoBulkAll parts + 1
  | .iface _ d => uptoBulk d + 1
  | .map entries => uptoBulkEntries entries + 1
  | .held _ => 1
def uptoBulkAll {H : Type} : List (DataW H) → Nat
  | [] => 0
  | d :: r => uptoBulk d + uptoBulkAll r
def uptoBulkEntries {H : Type} : List (Lit × DataW H) → Nat
  | [] => 0
  | x :: r => uptoBulkEntry x + uptoBulkEntries r
def uptoBulkEntry {H : Type} : Lit × DataW H → Nat
  | (.string bytes, d) => bytes.length + uptoBulk d + 1
  | (_, d) => uptoBulk d + 1
 end
def uptoSmall : (H : Type) → List (DataW H) → Bool := fun _ ds => decide (uptoBulkAll ds ≤ 1048576)
def OpenSpec.upto (s : _root_.Go.ChangeSpec) : _root_.Go.OpenSpec := { _root_.Go.OpenSpec.ofChange s with cond := some uptoSmall }

/-- 'stavelaw4.CodeRuns', WHERE WHAT IT READS IS OF BULK AT MOST 1048576: true; the input reads as it did. -/
def codeRunsUptoRow : OpenClaim := { program := "ytoanmeohlpdjfaadoor", sum := "d8eed91c2e707d29e450907c945c443c7d7ad6de5bbd076d811c92e5c42d1cc9", func := "stave/stavelaw4.CodeRuns", spec := "codeRuns", inPlace := ["internal/reflectlite.ValueOf", "(internal/reflectlite.Value).Type", "(internal/reflectlite.Value).IsNil", "internal/reflectlite.TypeOf", "(internal/reflectlite.Value).Elem", "(internal/reflectlite.Value).Set"], unfollowed := true, recurses := true, named := ["errors.errorType"], apart := false, laid := [("errors.errorType", laid_errors_errorType)], narrowed := true }
def CodeRunsUptoSaid : Prop := codeRunsUptoRow.holds Tryd.pinned (OpenSpec.upto codeRunsSpec)

/-- 'stavelaw4.CodeTells', WHERE WHAT IT READS IS OF BULK AT MOST 1048576: true; the input reads as it did. -/
def codeTellsUptoRow : OpenClaim := { program := "ytoanmeohlpdjfaadoor", sum := "d8eed91c2e707d29e450907c945c443c7d7ad6de5bbd076d811c92e5c42d1cc9", func := "stave/stavelaw4.CodeTells", spec := "codeTells", inPlace := ["internal/reflectlite.ValueOf", "(internal/reflectlite.Value).Type", "(internal/reflectlite.Value).IsNil", "internal/reflectlite.TypeOf", "(internal/reflectlite.Value).Elem", "(internal/reflectlite.Value).Set"], unfollowed := true, recurses := true, named := ["errors.errorType"], apart := false, laid := [("errors.errorType", laid_errors_errorType)], narrowed := true }
def CodeTellsUptoSaid : Prop := codeTellsUptoRow.holds Tryd.pinned (OpenSpec.upto codeTellsSpec)

/-- 'stavelaw4.CodeSystem', WHERE WHAT IT READS IS OF BULK AT MOST 1048576: true; the input reads as it did. -/
def codeSystemUptoRow : OpenClaim := { program := "ytoanmeohlpdjfaadoor", sum := "d8eed91c2e707d29e450907c945c443c7d7ad6de5bbd076d811c92e5c42d1cc9", func := "stave/stavelaw4.CodeSystem", spec := "codeSystem", inPlace := ["internal/reflectlite.ValueOf", "(internal/reflectlite.Value).Type", "(internal/reflectlite.Value).IsNil", "internal/reflectlite.TypeOf", "(internal/reflectlite.Value).Elem", "(internal/reflectlite.Value).Set"], unfollowed := true, recurses := true, named := ["errors.errorType"], apart := false, laid := [("errors.errorType", laid_errors_errorType)], narrowed := true }
def CodeSystemUptoSaid : Prop := codeSystemUptoRow.holds Tryd.pinned (OpenSpec.upto codeSystemSpec)

/-- 'stavelaw4.CodeBytes', WHERE WHAT IT READS IS OF BULK AT MOST 1048576: true; the input reads as it did. -/
def codeBytesUptoRow : OpenClaim := { program := "ytoanmeohlpdjfaadoor", sum := "d8eed91c2e707d29e450907c945c443c7d7ad6de5bbd076d811c92e5c42d1cc9", func := "stave/stavelaw4.CodeBytes", spec := "codeBytes", inPlace := ["internal/reflectlite.ValueOf", "(internal/reflectlite.Value).Type", "(internal/reflectlite.Value).IsNil", "internal/reflectlite.TypeOf", "(internal/reflectlite.Value).Elem", "(internal/reflectlite.Value).Set"], unfollowed := true, recurses := true, named := ["errors.errorType"], apart := false, laid := [("errors.errorType", laid_errors_errorType)], narrowed := true }
def CodeBytesUptoSaid : Prop := codeBytesUptoRow.holds Tryd.pinned (OpenSpec.upto codeBytesSpec)

/-- 'stavelaw4.CodeFirst', WHERE WHAT IT READS IS OF BULK AT MOST 1048576: true; the input reads as it did. -/
def codeFirstUptoRow : OpenClaim := { program := "ytoanmeohlpdjfaadoor", sum := "d8eed91c2e707d29e450907c945c443c7d7ad6de5bbd076d811c92e5c42d1cc9", func := "stave/stavelaw4.CodeFirst", spec := "codeFirst", inPlace := ["internal/reflectlite.ValueOf", "(internal/reflectlite.Value).Type", "(internal/reflectlite.Value).IsNil", "internal/reflectlite.TypeOf", "(internal/reflectlite.Value).Elem", "(internal/reflectlite.Value).Set"], unfollowed := true, recurses := true, named := ["errors.errorType"], apart := false, laid := [("errors.errorType", laid_errors_errorType)], narrowed := true }
def CodeFirstUptoSaid : Prop := codeFirstUptoRow.holds Tryd.pinned (OpenSpec.upto codeFirstSpec)

/-- 'stavelaw4.CodeDecodes', WHERE WHAT IT READS IS OF BULK AT MOST 1048576: true; the input reads as it did. -/
def codeDecodesUptoRow : OpenClaim := { program := "ytoanmeohlpdjfaadoor", sum := "d8eed91c2e707d29e450907c945c443c7d7ad6de5bbd076d811c92e5c42d1cc9", func := "stave/stavelaw4.CodeDecodes", spec := "codeDecodes", inPlace := ["internal/reflectlite.ValueOf", "(internal/reflectlite.Value).Type", "(internal/reflectlite.Value).IsNil", "internal/reflectlite.TypeOf", "(internal/reflectlite.Value).Elem", "(internal/reflectlite.Value).Set"], unfollowed := true, recurses := true, named := ["errors.errorType"], apart := false, laid := [("errors.errorType", laid_errors_errorType)], narrowed := true }
def CodeDecodesUptoSaid : Prop := codeDecodesUptoRow.holds Tryd.pinned (OpenSpec.upto codeDecodesSpec)

/-- 'stavelaw4.CodeBack', WHERE WHAT IT READS IS OF BULK AT MOST 1048576: true; the input reads as it did. -/
def codeBackUptoRow : OpenClaim := { program := "ytoanmeohlpdjfaadoor", sum := "d8eed91c2e707d29e450907c945c443c7d7ad6de5bbd076d811c92e5c42d1cc9", func := "stave/stavelaw4.CodeBack", spec := "codeBack", inPlace := ["internal/reflectlite.ValueOf", "(internal/reflectlite.Value).Type", "(internal/reflectlite.Value).IsNil", "internal/reflectlite.TypeOf", "(internal/reflectlite.Value).Elem", "(internal/reflectlite.Value).Set"], unfollowed := true, recurses := true, named := ["errors.errorType"], apart := false, laid := [("errors.errorType", laid_errors_errorType)], narrowed := true }
def CodeBackUptoSaid : Prop := codeBackUptoRow.holds Tryd.pinned (OpenSpec.upto codeBackSpec)

/-- 'stavelaw4.CodeDelta', WHERE WHAT IT READS IS OF BULK AT MOST 1048576: true; the input reads as it did. -/
def codeDeltaUptoRow : OpenClaim := { program := "ytoanmeohlpdjfaadoor", sum := "d8eed91c2e707d29e450907c945c443c7d7ad6de5bbd076d811c92e5c42d1cc9", func := "stave/stavelaw4.CodeDelta", spec := "codeDelta", inPlace := ["internal/reflectlite.ValueOf", "(internal/reflectlite.Value).Type", "(internal/reflectlite.Value).IsNil", "internal/reflectlite.TypeOf", "(internal/reflectlite.Value).Elem", "(internal/reflectlite.Value).Set"], unfollowed := true, recurses := true, named := ["errors.errorType"], apart := false, laid := [("errors.errorType", laid_errors_errorType)], narrowed := true }
def CodeDeltaUptoSaid : Prop := codeDeltaUptoRow.holds Tryd.pinned (OpenSpec.upto codeDeltaSpec)

/-- 'stavelaw4.CodeFew', WHERE WHAT IT READS IS OF BULK AT MOST 1048576: true; the input reads as it did. -/
def codeFewUptoRow : OpenClaim := { program := "ytoanmeohlpdjfaadoor", sum := "d8eed91c2e707d29e450907c945c443c7d7ad6de5bbd076d811c92e5c42d1cc9", func := "stave/stavelaw4.CodeFew", spec := "codeFew", inPlace := ["internal/reflectlite.ValueOf", "(internal/reflectlite.Value).Type", "(internal/reflectlite.Value).IsNil", "internal/reflectlite.TypeOf", "(internal/reflectlite.Value).Elem", "(internal/reflectlite.Value).Set"], unfollowed := true, recurses := true, named := ["errors.errorType"], apart := false, laid := [("errors.errorType", laid_errors_errorType)], narrowed := true }
def CodeFewUptoSaid : Prop := codeFewUptoRow.holds Tryd.pinned (OpenSpec.upto codeFewSpec)

end Rows
end Go.Proofs.YtoanmeohlpdjfaaDoor
