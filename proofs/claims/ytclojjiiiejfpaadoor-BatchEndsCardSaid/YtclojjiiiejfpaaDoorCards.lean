/-
  DERIVED. GIVEN WITH THE SEED: THE CARDS: each row of YtclojjiiiejfpaaDoorRows.lean that lists a variable, with what it lists TIED to the program's text (the seventh form; the later family's looks); each row that meets fmt, with fmt's text TOLD by the authors' own Lean function (tested against real Go, not proved from fmt's source: count such statements apart). THE CARD IS WHAT COUNTS. Prove the row's statement (the work); the ties are given (YtclojjiiiejfpaaDoorTie.lean); close each card by the builder's one call (the guide's Derived/Test/ToyasCard.lean, 'card_holds'). Laid BY PROGRAM, IN A SANDBOX (cutbox-door.mjs). By AI agents, Wed Nov 11 2026. No macro, syntax, notation, axiom, sorry.
-/
import Derived.Test.YtclojjiiiejfpaaDoorRows
import GoSem.ClaimSeven
namespace Go.Proofs.YtclojjiiiejfpaaDoor
namespace Rows

/-- THE TIED CARD OF 'stavelaw2.GramRuns'. -/
def gramRunsCard : Claim7 := { stood := { row := gramRunsRow, standIns := [], harness := (true, "cf375c636f1974f6ac7682287d43936c1ba2b51657399823dd4546f27590591e"), looks := true }, kinds := [], alts := [], laidByText := true, laidKinds := [.handle], laidTests := true, laidLooks := .later }
def GramRunsCardSaid : Prop := Claim7.holds Tryd.pinned (.plain (OpenSpec.ofChange gramRunsSpec)) gramRunsCard

/-- THE TIED CARD OF 'stavelaw2.GramTells'. -/
def gramTellsCard : Claim7 := { stood := { row := gramTellsRow, standIns := [], harness := (true, "cf375c636f1974f6ac7682287d43936c1ba2b51657399823dd4546f27590591e"), looks := true }, kinds := [], alts := [], laidByText := true, laidKinds := [.handle], laidTests := true, laidLooks := .later }
def GramTellsCardSaid : Prop := Claim7.holds Tryd.pinned (.plain (OpenSpec.ofChange gramTellsSpec)) gramTellsCard

/-- THE TIED CARD OF 'stavelaw2.GramReads'. -/
def gramReadsCard : Claim7 := { stood := { row := gramReadsRow, standIns := [], harness := (true, "cf375c636f1974f6ac7682287d43936c1ba2b51657399823dd4546f27590591e"), looks := true }, kinds := [], alts := [], laidByText := true, laidKinds := [.handle], laidTests := true, laidLooks := .later }
def GramReadsCardSaid : Prop := Claim7.holds Tryd.pinned (.plain (OpenSpec.ofChange gramReadsSpec)) gramReadsCard

/-- THE TIED CARD OF 'stavelaw2.GramBack'. -/
def gramBackCard : Claim7 := { stood := { row := gramBackRow, standIns := [], harness := (true, "cf375c636f1974f6ac7682287d43936c1ba2b51657399823dd4546f27590591e"), looks := true }, kinds := [], alts := [], laidByText := true, laidKinds := [.handle], laidTests := true, laidLooks := .later }
def GramBackCardSaid : Prop := Claim7.holds Tryd.pinned (.plain (OpenSpec.ofChange gramBackSpec)) gramBackCard

/-- THE TIED CARD OF 'stavelaw2.GramOnly'. -/
def gramOnlyCard : Claim7 := { stood := { row := gramOnlyRow, standIns := [], harness := (true, "cf375c636f1974f6ac7682287d43936c1ba2b51657399823dd4546f27590591e"), looks := true }, kinds := [], alts := [], laidByText := true, laidKinds := [.handle], laidTests := true, laidLooks := .later }
def GramOnlyCardSaid : Prop := Claim7.holds Tryd.pinned (.plain (OpenSpec.ofChange gramOnlySpec)) gramOnlyCard

/-- THE TIED CARD OF 'stavelaw2.GramEnds'. -/
def gramEndsCard : Claim7 := { stood := { row := gramEndsRow, standIns := [], harness := (true, "cf375c636f1974f6ac7682287d43936c1ba2b51657399823dd4546f27590591e"), looks := true }, kinds := [], alts := [], laidByText := true, laidKinds := [.handle], laidTests := true, laidLooks := .later }
def GramEndsCardSaid : Prop := Claim7.holds Tryd.pinned (.plain (OpenSpec.ofChange gramEndsSpec)) gramEndsCard

/-- THE TIED CARD OF 'stavelaw2.GramJoins'. -/
def gramJoinsCard : Claim7 := { stood := { row := gramJoinsRow, standIns := [], harness := (true, "cf375c636f1974f6ac7682287d43936c1ba2b51657399823dd4546f27590591e"), looks := true }, kinds := [], alts := [], laidByText := true, laidKinds := [.handle], laidTests := true, laidLooks := .later }
def GramJoinsCardSaid : Prop := Claim7.holds Tryd.pinned (.plain (OpenSpec.ofChange gramJoinsSpec)) gramJoinsCard

/-- THE TIED CARD OF 'stavelaw2.GramTexts'. -/
def gramTextsCard : Claim7 := { stood := { row := gramTextsRow, standIns := [], harness := (true, "cf375c636f1974f6ac7682287d43936c1ba2b51657399823dd4546f27590591e"), looks := true }, kinds := [], alts := [], laidByText := true, laidKinds := [.handle], laidTests := true, laidLooks := .later }
def GramTextsCardSaid : Prop := Claim7.holds Tryd.pinned (.plain (OpenSpec.ofChange gramTextsSpec)) gramTextsCard

/-- THE TIED CARD OF 'stavelaw15.BatchRuns'. -/
def batchRunsCard : Claim7 := { stood := { row := batchRunsRow, standIns := [], harness := (true, "cf375c636f1974f6ac7682287d43936c1ba2b51657399823dd4546f27590591e"), looks := true }, kinds := [], alts := [], laidByText := true, laidKinds := [.handle], laidTests := true, laidLooks := .later }
def BatchRunsCardSaid : Prop := Claim7.holds Tryd.pinned (.plain (OpenSpec.ofChange batchRunsSpec)) batchRunsCard

/-- THE TIED CARD OF 'stavelaw15.BatchTells'. -/
def batchTellsCard : Claim7 := { stood := { row := batchTellsRow, standIns := [], harness := (true, "cf375c636f1974f6ac7682287d43936c1ba2b51657399823dd4546f27590591e"), looks := true }, kinds := [], alts := [], laidByText := true, laidKinds := [.handle], laidTests := true, laidLooks := .later }
def BatchTellsCardSaid : Prop := Claim7.holds Tryd.pinned (.plain (OpenSpec.ofChange batchTellsSpec)) batchTellsCard

/-- THE TIED CARD OF 'stavelaw15.BatchBack'. -/
def batchBackCard : Claim7 := { stood := { row := batchBackRow, standIns := [], harness := (true, "cf375c636f1974f6ac7682287d43936c1ba2b51657399823dd4546f27590591e"), looks := true }, kinds := [], alts := [], laidByText := true, laidKinds := [.handle], laidTests := true, laidLooks := .later }
def BatchBackCardSaid : Prop := Claim7.holds Tryd.pinned (.plain (OpenSpec.ofChange batchBackSpec)) batchBackCard

/-- THE TIED CARD OF 'stavelaw15.BatchEnds'. -/
def batchEndsCard : Claim7 := { stood := { row := batchEndsRow, standIns := [], harness := (true, "cf375c636f1974f6ac7682287d43936c1ba2b51657399823dd4546f27590591e"), looks := true }, kinds := [], alts := [], laidByText := true, laidKinds := [.handle], laidTests := true, laidLooks := .later }
def BatchEndsCardSaid : Prop := Claim7.holds Tryd.pinned (.plain (OpenSpec.ofChange batchEndsSpec)) batchEndsCard

/-- THE TIED CARD OF 'stavelaw15.BatchOnly'. -/
def batchOnlyCard : Claim7 := { stood := { row := batchOnlyRow, standIns := [], harness := (true, "cf375c636f1974f6ac7682287d43936c1ba2b51657399823dd4546f27590591e"), looks := true }, kinds := [], alts := [], laidByText := true, laidKinds := [.handle], laidTests := true, laidLooks := .later }
def BatchOnlyCardSaid : Prop := Claim7.holds Tryd.pinned (.plain (OpenSpec.ofChange batchOnlySpec)) batchOnlyCard

/-- THE SECOND FORM's CARD OF 'stavelaw2.GramRuns'. -/
def gramRunsUptoCard : Claim7 := { stood := { row := gramRunsUptoRow, standIns := [], harness := (true, "cf375c636f1974f6ac7682287d43936c1ba2b51657399823dd4546f27590591e"), looks := true }, kinds := [], alts := [], laidByText := true, laidKinds := [.handle], laidTests := true, laidLooks := .later }
def GramRunsUptoCardSaid : Prop := Claim7.holds Tryd.pinned (.plain (OpenSpec.upto gramRunsSpec)) gramRunsUptoCard

/-- THE SECOND FORM's CARD OF 'stavelaw2.GramTells'. -/
def gramTellsUptoCard : Claim7 := { stood := { row := gramTellsUptoRow, standIns := [], harness := (true, "cf375c636f1974f6ac7682287d43936c1ba2b51657399823dd4546f27590591e"), looks := true }, kinds := [], alts := [], laidByText := true, laidKinds := [.handle], laidTests := true, laidLooks := .later }
def GramTellsUptoCardSaid : Prop := Claim7.holds Tryd.pinned (.plain (OpenSpec.upto gramTellsSpec)) gramTellsUptoCard

/-- THE SECOND FORM's CARD OF 'stavelaw2.GramReads'. -/
def gramReadsUptoCard : Claim7 := { stood := { row := gramReadsUptoRow, standIns := [], harness := (true, "cf375c636f1974f6ac7682287d43936c1ba2b51657399823dd4546f27590591e"), looks := true }, kinds := [], alts := [], laidByText := true, laidKinds := [.handle], laidTests := true, laidLooks := .later }
def GramReadsUptoCardSaid : Prop := Claim7.holds Tryd.pinned (.plain (OpenSpec.upto gramReadsSpec)) gramReadsUptoCard

/-- THE SECOND FORM's CARD OF 'stavelaw2.GramBack'. -/
def gramBackUptoCard : Claim7 := { stood := { row := gramBackUptoRow, standIns := [], harness := (true, "cf375c636f1974f6ac7682287d43936c1ba2b51657399823dd4546f27590591e"), looks := true }, kinds := [], alts := [], laidByText := true, laidKinds := [.handle], laidTests := true, laidLooks := .later }
def GramBackUptoCardSaid : Prop := Claim7.holds Tryd.pinned (.plain (OpenSpec.upto gramBackSpec)) gramBackUptoCard

/-- THE SECOND FORM's CARD OF 'stavelaw2.GramOnly'. -/
def gramOnlyUptoCard : Claim7 := { stood := { row := gramOnlyUptoRow, standIns := [], harness := (true, "cf375c636f1974f6ac7682287d43936c1ba2b51657399823dd4546f27590591e"), looks := true }, kinds := [], alts := [], laidByText := true, laidKinds := [.handle], laidTests := true, laidLooks := .later }
def GramOnlyUptoCardSaid : Prop := Claim7.holds Tryd.pinned (.plain (OpenSpec.upto gramOnlySpec)) gramOnlyUptoCard

/-- THE SECOND FORM's CARD OF 'stavelaw2.GramEnds'. -/
def gramEndsUptoCard : Claim7 := { stood := { row := gramEndsUptoRow, standIns := [], harness := (true, "cf375c636f1974f6ac7682287d43936c1ba2b51657399823dd4546f27590591e"), looks := true }, kinds := [], alts := [], laidByText := true, laidKinds := [.handle], laidTests := true, laidLooks := .later }
def GramEndsUptoCardSaid : Prop := Claim7.holds Tryd.pinned (.plain (OpenSpec.upto gramEndsSpec)) gramEndsUptoCard

/-- THE SECOND FORM's CARD OF 'stavelaw2.GramJoins'. -/
def gramJoinsUptoCard : Claim7 := { stood := { row := gramJoinsUptoRow, standIns := [], harness := (true, "cf375c636f1974f6ac7682287d43936c1ba2b51657399823dd4546f27590591e"), looks := true }, kinds := [], alts := [], laidByText := true, laidKinds := [.handle], laidTests := true, laidLooks := .later }
def GramJoinsUptoCardSaid : Prop := Claim7.holds Tryd.pinned (.plain (OpenSpec.upto gramJoinsSpec)) gramJoinsUptoCard

/-- THE SECOND FORM's CARD OF 'stavelaw2.GramTexts'. -/
def gramTextsUptoCard : Claim7 := { stood := { row := gramTextsUptoRow, standIns := [], harness := (true, "cf375c636f1974f6ac7682287d43936c1ba2b51657399823dd4546f27590591e"), looks := true }, kinds := [], alts := [], laidByText := true, laidKinds := [.handle], laidTests := true, laidLooks := .later }
def GramTextsUptoCardSaid : Prop := Claim7.holds Tryd.pinned (.plain (OpenSpec.upto gramTextsSpec)) gramTextsUptoCard

/-- THE SECOND FORM's CARD OF 'stavelaw15.BatchRuns'. -/
def batchRunsUptoCard : Claim7 := { stood := { row := batchRunsUptoRow, standIns := [], harness := (true, "cf375c636f1974f6ac7682287d43936c1ba2b51657399823dd4546f27590591e"), looks := true }, kinds := [], alts := [], laidByText := true, laidKinds := [.handle], laidTests := true, laidLooks := .later }
def BatchRunsUptoCardSaid : Prop := Claim7.holds Tryd.pinned (.plain (OpenSpec.upto batchRunsSpec)) batchRunsUptoCard

/-- THE SECOND FORM's CARD OF 'stavelaw15.BatchTells'. -/
def batchTellsUptoCard : Claim7 := { stood := { row := batchTellsUptoRow, standIns := [], harness := (true, "cf375c636f1974f6ac7682287d43936c1ba2b51657399823dd4546f27590591e"), looks := true }, kinds := [], alts := [], laidByText := true, laidKinds := [.handle], laidTests := true, laidLooks := .later }
def BatchTellsUptoCardSaid : Prop := Claim7.holds Tryd.pinned (.plain (OpenSpec.upto batchTellsSpec)) batchTellsUptoCard

/-- THE SECOND FORM's CARD OF 'stavelaw15.BatchBack'. -/
def batchBackUptoCard : Claim7 := { stood := { row := batchBackUptoRow, standIns := [], harness := (true, "cf375c636f1974f6ac7682287d43936c1ba2b51657399823dd4546f27590591e"), looks := true }, kinds := [], alts := [], laidByText := true, laidKinds := [.handle], laidTests := true, laidLooks := .later }
def BatchBackUptoCardSaid : Prop := Claim7.holds Tryd.pinned (.plain (OpenSpec.upto batchBackSpec)) batchBackUptoCard

/-- THE SECOND FORM's CARD OF 'stavelaw15.BatchEnds'. -/
def batchEndsUptoCard : Claim7 := { stood := { row := batchEndsUptoRow, standIns := [], harness := (true, "cf375c636f1974f6ac7682287d43936c1ba2b51657399823dd4546f27590591e"), looks := true }, kinds := [], alts := [], laidByText := true, laidKinds := [.handle], laidTests := true, laidLooks := .later }
def BatchEndsUptoCardSaid : Prop := Claim7.holds Tryd.pinned (.plain (OpenSpec.upto batchEndsSpec)) batchEndsUptoCard

/-- THE SECOND FORM's CARD OF 'stavelaw15.BatchOnly'. -/
def batchOnlyUptoCard : Claim7 := { stood := { row := batchOnlyUptoRow, standIns := [], harness := (true, "cf375c636f1974f6ac7682287d43936c1ba2b51657399823dd4546f27590591e"), looks := true }, kinds := [], alts := [], laidByText := true, laidKinds := [.handle], laidTests := true, laidLooks := .later }
def BatchOnlyUptoCardSaid : Prop := Claim7.holds Tryd.pinned (.plain (OpenSpec.upto batchOnlySpec)) batchOnlyUptoCard
end Rows
end Go.Proofs.YtclojjiiiejfpaaDoor
