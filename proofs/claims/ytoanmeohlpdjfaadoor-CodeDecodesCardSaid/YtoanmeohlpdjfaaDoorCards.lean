/-
  DERIVED. GIVEN WITH THE SEED: THE CARDS: each row of YtoanmeohlpdjfaaDoorRows.lean that lists a variable, with what it lists TIED to the program's text (the seventh form; the later family's looks); each row that meets fmt, with fmt's text TOLD by the authors' own Lean function (tested against real Go, not proved from fmt's source: count such statements apart). THE CARD IS WHAT COUNTS. Prove the row's statement (the work); the ties are given (YtoanmeohlpdjfaaDoorTie.lean); close each card by the builder's one call (the guide's Derived/Test/ToyasCard.lean, 'card_holds'). Laid BY PROGRAM, IN A SANDBOX (cutbox-door.mjs). By AI agents, Wed Nov 11 2026. No macro, syntax, notation, axiom, sorry.
-/
import Derived.Test.YtoanmeohlpdjfaaDoorRows
import GoSem.ClaimSeven
namespace Go.Proofs.YtoanmeohlpdjfaaDoor
namespace Rows

/-- THE TIED CARD OF 'stavelaw4.CodeRuns'. -/
def codeRunsCard : Claim7 := { stood := { row := codeRunsRow, standIns := [], harness := (true, "2e50f97b89999520ac20bb00aa0a203e4a33cc14898f4813035cf63acb22164c"), looks := true }, kinds := [], alts := [], laidByText := true, laidKinds := [.handle], laidTests := true, laidLooks := .later }
def CodeRunsCardSaid : Prop := Claim7.holds Tryd.pinned (.plain (OpenSpec.ofChange codeRunsSpec)) codeRunsCard

/-- THE TIED CARD OF 'stavelaw4.CodeTells'. -/
def codeTellsCard : Claim7 := { stood := { row := codeTellsRow, standIns := [], harness := (true, "2e50f97b89999520ac20bb00aa0a203e4a33cc14898f4813035cf63acb22164c"), looks := true }, kinds := [], alts := [], laidByText := true, laidKinds := [.handle], laidTests := true, laidLooks := .later }
def CodeTellsCardSaid : Prop := Claim7.holds Tryd.pinned (.plain (OpenSpec.ofChange codeTellsSpec)) codeTellsCard

/-- THE TIED CARD OF 'stavelaw4.CodeSystem'. -/
def codeSystemCard : Claim7 := { stood := { row := codeSystemRow, standIns := [], harness := (true, "2e50f97b89999520ac20bb00aa0a203e4a33cc14898f4813035cf63acb22164c"), looks := true }, kinds := [], alts := [], laidByText := true, laidKinds := [.handle], laidTests := true, laidLooks := .later }
def CodeSystemCardSaid : Prop := Claim7.holds Tryd.pinned (.plain (OpenSpec.ofChange codeSystemSpec)) codeSystemCard

/-- THE TIED CARD OF 'stavelaw4.CodeBytes'. -/
def codeBytesCard : Claim7 := { stood := { row := codeBytesRow, standIns := [], harness := (true, "2e50f97b89999520ac20bb00aa0a203e4a33cc14898f4813035cf63acb22164c"), looks := true }, kinds := [], alts := [], laidByText := true, laidKinds := [.handle], laidTests := true, laidLooks := .later }
def CodeBytesCardSaid : Prop := Claim7.holds Tryd.pinned (.plain (OpenSpec.ofChange codeBytesSpec)) codeBytesCard

/-- THE TIED CARD OF 'stavelaw4.CodeFirst'. -/
def codeFirstCard : Claim7 := { stood := { row := codeFirstRow, standIns := [], harness := (true, "2e50f97b89999520ac20bb00aa0a203e4a33cc14898f4813035cf63acb22164c"), looks := true }, kinds := [], alts := [], laidByText := true, laidKinds := [.handle], laidTests := true, laidLooks := .later }
def CodeFirstCardSaid : Prop := Claim7.holds Tryd.pinned (.plain (OpenSpec.ofChange codeFirstSpec)) codeFirstCard

/-- THE TIED CARD OF 'stavelaw4.CodeDecodes'. -/
def codeDecodesCard : Claim7 := { stood := { row := codeDecodesRow, standIns := [], harness := (true, "2e50f97b89999520ac20bb00aa0a203e4a33cc14898f4813035cf63acb22164c"), looks := true }, kinds := [], alts := [], laidByText := true, laidKinds := [.handle], laidTests := true, laidLooks := .later }
def CodeDecodesCardSaid : Prop := Claim7.holds Tryd.pinned (.plain (OpenSpec.ofChange codeDecodesSpec)) codeDecodesCard

/-- THE TIED CARD OF 'stavelaw4.CodeBack'. -/
def codeBackCard : Claim7 := { stood := { row := codeBackRow, standIns := [], harness := (true, "2e50f97b89999520ac20bb00aa0a203e4a33cc14898f4813035cf63acb22164c"), looks := true }, kinds := [], alts := [], laidByText := true, laidKinds := [.handle], laidTests := true, laidLooks := .later }
def CodeBackCardSaid : Prop := Claim7.holds Tryd.pinned (.plain (OpenSpec.ofChange codeBackSpec)) codeBackCard

/-- THE TIED CARD OF 'stavelaw4.CodeDelta'. -/
def codeDeltaCard : Claim7 := { stood := { row := codeDeltaRow, standIns := [], harness := (true, "2e50f97b89999520ac20bb00aa0a203e4a33cc14898f4813035cf63acb22164c"), looks := true }, kinds := [], alts := [], laidByText := true, laidKinds := [.handle], laidTests := true, laidLooks := .later }
def CodeDeltaCardSaid : Prop := Claim7.holds Tryd.pinned (.plain (OpenSpec.ofChange codeDeltaSpec)) codeDeltaCard

/-- THE TIED CARD OF 'stavelaw4.CodeFew'. -/
def codeFewCard : Claim7 := { stood := { row := codeFewRow, standIns := [], harness := (true, "2e50f97b89999520ac20bb00aa0a203e4a33cc14898f4813035cf63acb22164c"), looks := true }, kinds := [], alts := [], laidByText := true, laidKinds := [.handle], laidTests := true, laidLooks := .later }
def CodeFewCardSaid : Prop := Claim7.holds Tryd.pinned (.plain (OpenSpec.ofChange codeFewSpec)) codeFewCard

/-- THE SECOND FORM's CARD OF 'stavelaw4.CodeRuns'. -/
def codeRunsUptoCard : Claim7 := { stood := { row := codeRunsUptoRow, standIns := [], harness := (true, "2e50f97b89999520ac20bb00aa0a203e4a33cc14898f4813035cf63acb22164c"), looks := true }, kinds := [], alts := [], laidByText := true, laidKinds := [.handle], laidTests := true, laidLooks := .later }
def CodeRunsUptoCardSaid : Prop := Claim7.holds Tryd.pinned (.plain (OpenSpec.upto codeRunsSpec)) codeRunsUptoCard

/-- THE SECOND FORM's CARD OF 'stavelaw4.CodeTells'. -/
def codeTellsUptoCard : Claim7 := { stood := { row := codeTellsUptoRow, standIns := [], harness := (true, "2e50f97b89999520ac20bb00aa0a203e4a33cc14898f4813035cf63acb22164c"), looks := true }, kinds := [], alts := [], laidByText := true, laidKinds := [.handle], laidTests := true, laidLooks := .later }
def CodeTellsUptoCardSaid : Prop := Claim7.holds Tryd.pinned (.plain (OpenSpec.upto codeTellsSpec)) codeTellsUptoCard

/-- THE SECOND FORM's CARD OF 'stavelaw4.CodeSystem'. -/
def codeSystemUptoCard : Claim7 := { stood := { row := codeSystemUptoRow, standIns := [], harness := (true, "2e50f97b89999520ac20bb00aa0a203e4a33cc14898f4813035cf63acb22164c"), looks := true }, kinds := [], alts := [], laidByText := true, laidKinds := [.handle], laidTests := true, laidLooks := .later }
def CodeSystemUptoCardSaid : Prop := Claim7.holds Tryd.pinned (.plain (OpenSpec.upto codeSystemSpec)) codeSystemUptoCard

/-- THE SECOND FORM's CARD OF 'stavelaw4.CodeBytes'. -/
def codeBytesUptoCard : Claim7 := { stood := { row := codeBytesUptoRow, standIns := [], harness := (true, "2e50f97b89999520ac20bb00aa0a203e4a33cc14898f4813035cf63acb22164c"), looks := true }, kinds := [], alts := [], laidByText := true, laidKinds := [.handle], laidTests := true, laidLooks := .later }
def CodeBytesUptoCardSaid : Prop := Claim7.holds Tryd.pinned (.plain (OpenSpec.upto codeBytesSpec)) codeBytesUptoCard

/-- THE SECOND FORM's CARD OF 'stavelaw4.CodeFirst'. -/
def codeFirstUptoCard : Claim7 := { stood := { row := codeFirstUptoRow, standIns := [], harness := (true, "2e50f97b89999520ac20bb00aa0a203e4a33cc14898f4813035cf63acb22164c"), looks := true }, kinds := [], alts := [], laidByText := true, laidKinds := [.handle], laidTests := true, laidLooks := .later }
def CodeFirstUptoCardSaid : Prop := Claim7.holds Tryd.pinned (.plain (OpenSpec.upto codeFirstSpec)) codeFirstUptoCard

/-- THE SECOND FORM's CARD OF 'stavelaw4.CodeDecodes'. -/
def codeDecodesUptoCard : Claim7 := { stood := { row := codeDecodesUptoRow, standIns := [], harness := (true, "2e50f97b89999520ac20bb00aa0a203e4a33cc14898f4813035cf63acb22164c"), looks := true }, kinds := [], alts := [], laidByText := true, laidKinds := [.handle], laidTests := true, laidLooks := .later }
def CodeDecodesUptoCardSaid : Prop := Claim7.holds Tryd.pinned (.plain (OpenSpec.upto codeDecodesSpec)) codeDecodesUptoCard

/-- THE SECOND FORM's CARD OF 'stavelaw4.CodeBack'. -/
def codeBackUptoCard : Claim7 := { stood := { row := codeBackUptoRow, standIns := [], harness := (true, "2e50f97b89999520ac20bb00aa0a203e4a33cc14898f4813035cf63acb22164c"), looks := true }, kinds := [], alts := [], laidByText := true, laidKinds := [.handle], laidTests := true, laidLooks := .later }
def CodeBackUptoCardSaid : Prop := Claim7.holds Tryd.pinned (.plain (OpenSpec.upto codeBackSpec)) codeBackUptoCard

/-- THE SECOND FORM's CARD OF 'stavelaw4.CodeDelta'. -/
def codeDeltaUptoCard : Claim7 := { stood := { row := codeDeltaUptoRow, standIns := [], harness := (true, "2e50f97b89999520ac20bb00aa0a203e4a33cc14898f4813035cf63acb22164c"), looks := true }, kinds := [], alts := [], laidByText := true, laidKinds := [.handle], laidTests := true, laidLooks := .later }
def CodeDeltaUptoCardSaid : Prop := Claim7.holds Tryd.pinned (.plain (OpenSpec.upto codeDeltaSpec)) codeDeltaUptoCard

/-- THE SECOND FORM's CARD OF 'stavelaw4.CodeFew'. -/
def codeFewUptoCard : Claim7 := { stood := { row := codeFewUptoRow, standIns := [], harness := (true, "2e50f97b89999520ac20bb00aa0a203e4a33cc14898f4813035cf63acb22164c"), looks := true }, kinds := [], alts := [], laidByText := true, laidKinds := [.handle], laidTests := true, laidLooks := .later }
def CodeFewUptoCardSaid : Prop := Claim7.holds Tryd.pinned (.plain (OpenSpec.upto codeFewSpec)) codeFewUptoCard
end Rows
end Go.Proofs.YtoanmeohlpdjfaaDoor
