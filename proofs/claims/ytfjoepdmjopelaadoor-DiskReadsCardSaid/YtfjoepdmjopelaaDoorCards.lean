/-
  DERIVED. GIVEN WITH THE SEED: THE CARDS: each row of YtfjoepdmjopelaaDoorRows.lean that lists a variable, with what it lists TIED to the program's text (the seventh form; the later family's looks); each row that meets fmt, with fmt's text TOLD by the authors' own Lean function (tested against real Go, not proved from fmt's source: count such statements apart). THE CARD IS WHAT COUNTS. Prove the row's statement (the work); the ties are given (YtfjoepdmjopelaaDoorTie.lean); close each card by the builder's one call (the guide's Derived/Test/ToyasCard.lean, 'card_holds'). Laid BY PROGRAM, IN A SANDBOX (cutbox-door.mjs). By AI agents, Wed Nov 11 2026. No macro, syntax, notation, axiom, sorry.
-/
import Derived.Test.YtfjoepdmjopelaaDoorRows
import GoSem.ClaimSeven
namespace Go.Proofs.YtfjoepdmjopelaaDoor
namespace Rows

/-- THE TIED CARD OF 'stavelaw6.DiskReads'. -/
def diskReadsCard : Claim7 := { stood := { row := diskReadsRow, standIns := [], harness := (true, "cd553f432a460a2fb5a0d860ab5dd5979f4a8f713dfb6a4b91b573ead7ca9915"), looks := true }, kinds := [], alts := [], laidByText := true, laidKinds := [.handle], laidTests := true, laidLooks := .later }
def DiskReadsCardSaid : Prop := Claim7.holds Tryd.pinned (.plain (OpenSpec.ofChange diskReadsSpec)) diskReadsCard

/-- THE SECOND FORM's CARD OF 'stavelaw6.DiskReads'. -/
def diskReadsUptoCard : Claim7 := { stood := { row := diskReadsUptoRow, standIns := [], harness := (true, "cd553f432a460a2fb5a0d860ab5dd5979f4a8f713dfb6a4b91b573ead7ca9915"), looks := true }, kinds := [], alts := [], laidByText := true, laidKinds := [.handle], laidTests := true, laidLooks := .later }
def DiskReadsUptoCardSaid : Prop := Claim7.holds Tryd.pinned (.plain (OpenSpec.upto diskReadsSpec)) diskReadsUptoCard
end Rows
end Go.Proofs.YtfjoepdmjopelaaDoor
