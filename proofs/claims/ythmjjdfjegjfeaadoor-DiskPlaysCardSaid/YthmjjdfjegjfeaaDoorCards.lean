/-
  DERIVED. GIVEN WITH THE SEED: THE CARDS: each row of YthmjjdfjegjfeaaDoorRows.lean that lists a variable, with what it lists TIED to the program's text (the seventh form; the later family's looks); each row that meets fmt, with fmt's text TOLD by the authors' own Lean function (tested against real Go, not proved from fmt's source: count such statements apart). THE CARD IS WHAT COUNTS. Prove the row's statement (the work); the ties are given (YthmjjdfjegjfeaaDoorTie.lean); close each card by the builder's one call (the guide's Derived/Test/ToyasCard.lean, 'card_holds'). Laid BY PROGRAM, IN A SANDBOX (cutbox-door.mjs). By AI agents, Wed Nov 11 2026. No macro, syntax, notation, axiom, sorry.
-/
import Derived.Test.YthmjjdfjegjfeaaDoorRows
import GoSem.ClaimSeven
namespace Go.Proofs.YthmjjdfjegjfeaaDoor
namespace Rows

/-- THE TIED CARD OF 'stavelaw6.DiskRuns'. -/
def diskRunsCard : Claim7 := { stood := { row := diskRunsRow, standIns := [], harness := (true, "b57ea937147152e04a0496f4a5ea07a25b96bad5f9cefe8210078b95c0e82026"), looks := true }, kinds := [], alts := [], laidByText := true, laidKinds := [.handle], laidTests := true, laidLooks := .later }
def DiskRunsCardSaid : Prop := Claim7.holds Tryd.pinned (.plain (OpenSpec.ofChange diskRunsSpec)) diskRunsCard

/-- THE TIED CARD OF 'stavelaw6.DiskTears'. -/
def diskTearsCard : Claim7 := { stood := { row := diskTearsRow, standIns := [], harness := (true, "b57ea937147152e04a0496f4a5ea07a25b96bad5f9cefe8210078b95c0e82026"), looks := true }, kinds := [], alts := [], laidByText := true, laidKinds := [.handle], laidTests := true, laidLooks := .later }
def DiskTearsCardSaid : Prop := Claim7.holds Tryd.pinned (.plain (OpenSpec.ofChange diskTearsSpec)) diskTearsCard

/-- THE TIED CARD OF 'stavelaw6.DiskRots'. -/
def diskRotsCard : Claim7 := { stood := { row := diskRotsRow, standIns := [], harness := (true, "b57ea937147152e04a0496f4a5ea07a25b96bad5f9cefe8210078b95c0e82026"), looks := true }, kinds := [], alts := [], laidByText := true, laidKinds := [.handle], laidTests := true, laidLooks := .later }
def DiskRotsCardSaid : Prop := Claim7.holds Tryd.pinned (.plain (OpenSpec.ofChange diskRotsSpec)) diskRotsCard

/-- THE TIED CARD OF 'stavelaw6.DiskFlushed'. -/
def diskFlushedCard : Claim7 := { stood := { row := diskFlushedRow, standIns := [], harness := (true, "b57ea937147152e04a0496f4a5ea07a25b96bad5f9cefe8210078b95c0e82026"), looks := true }, kinds := [], alts := [], laidByText := true, laidKinds := [.handle], laidTests := true, laidLooks := .later }
def DiskFlushedCardSaid : Prop := Claim7.holds Tryd.pinned (.plain (OpenSpec.ofChange diskFlushedSpec)) diskFlushedCard

/-- THE TIED CARD OF 'stavelaw6.DiskGone'. -/
def diskGoneCard : Claim7 := { stood := { row := diskGoneRow, standIns := [], harness := (true, "b57ea937147152e04a0496f4a5ea07a25b96bad5f9cefe8210078b95c0e82026"), looks := true }, kinds := [], alts := [], laidByText := true, laidKinds := [.handle], laidTests := true, laidLooks := .later }
def DiskGoneCardSaid : Prop := Claim7.holds Tryd.pinned (.plain (OpenSpec.ofChange diskGoneSpec)) diskGoneCard

/-- THE TIED CARD OF 'stavelaw6.DiskPlays'. -/
def diskPlaysCard : Claim7 := { stood := { row := diskPlaysRow, standIns := [], harness := (true, "b57ea937147152e04a0496f4a5ea07a25b96bad5f9cefe8210078b95c0e82026"), looks := true }, kinds := [], alts := [], laidByText := true, laidKinds := [.handle], laidTests := true, laidLooks := .later }
def DiskPlaysCardSaid : Prop := Claim7.holds Tryd.pinned (.plain (OpenSpec.ofChange diskPlaysSpec)) diskPlaysCard

/-- THE SECOND FORM's CARD OF 'stavelaw6.DiskRuns'. -/
def diskRunsUptoCard : Claim7 := { stood := { row := diskRunsUptoRow, standIns := [], harness := (true, "b57ea937147152e04a0496f4a5ea07a25b96bad5f9cefe8210078b95c0e82026"), looks := true }, kinds := [], alts := [], laidByText := true, laidKinds := [.handle], laidTests := true, laidLooks := .later }
def DiskRunsUptoCardSaid : Prop := Claim7.holds Tryd.pinned (.plain (OpenSpec.upto diskRunsSpec)) diskRunsUptoCard

/-- THE SECOND FORM's CARD OF 'stavelaw6.DiskTears'. -/
def diskTearsUptoCard : Claim7 := { stood := { row := diskTearsUptoRow, standIns := [], harness := (true, "b57ea937147152e04a0496f4a5ea07a25b96bad5f9cefe8210078b95c0e82026"), looks := true }, kinds := [], alts := [], laidByText := true, laidKinds := [.handle], laidTests := true, laidLooks := .later }
def DiskTearsUptoCardSaid : Prop := Claim7.holds Tryd.pinned (.plain (OpenSpec.upto diskTearsSpec)) diskTearsUptoCard

/-- THE SECOND FORM's CARD OF 'stavelaw6.DiskRots'. -/
def diskRotsUptoCard : Claim7 := { stood := { row := diskRotsUptoRow, standIns := [], harness := (true, "b57ea937147152e04a0496f4a5ea07a25b96bad5f9cefe8210078b95c0e82026"), looks := true }, kinds := [], alts := [], laidByText := true, laidKinds := [.handle], laidTests := true, laidLooks := .later }
def DiskRotsUptoCardSaid : Prop := Claim7.holds Tryd.pinned (.plain (OpenSpec.upto diskRotsSpec)) diskRotsUptoCard

/-- THE SECOND FORM's CARD OF 'stavelaw6.DiskFlushed'. -/
def diskFlushedUptoCard : Claim7 := { stood := { row := diskFlushedUptoRow, standIns := [], harness := (true, "b57ea937147152e04a0496f4a5ea07a25b96bad5f9cefe8210078b95c0e82026"), looks := true }, kinds := [], alts := [], laidByText := true, laidKinds := [.handle], laidTests := true, laidLooks := .later }
def DiskFlushedUptoCardSaid : Prop := Claim7.holds Tryd.pinned (.plain (OpenSpec.upto diskFlushedSpec)) diskFlushedUptoCard

/-- THE SECOND FORM's CARD OF 'stavelaw6.DiskGone'. -/
def diskGoneUptoCard : Claim7 := { stood := { row := diskGoneUptoRow, standIns := [], harness := (true, "b57ea937147152e04a0496f4a5ea07a25b96bad5f9cefe8210078b95c0e82026"), looks := true }, kinds := [], alts := [], laidByText := true, laidKinds := [.handle], laidTests := true, laidLooks := .later }
def DiskGoneUptoCardSaid : Prop := Claim7.holds Tryd.pinned (.plain (OpenSpec.upto diskGoneSpec)) diskGoneUptoCard

/-- THE SECOND FORM's CARD OF 'stavelaw6.DiskPlays'. -/
def diskPlaysUptoCard : Claim7 := { stood := { row := diskPlaysUptoRow, standIns := [], harness := (true, "b57ea937147152e04a0496f4a5ea07a25b96bad5f9cefe8210078b95c0e82026"), looks := true }, kinds := [], alts := [], laidByText := true, laidKinds := [.handle], laidTests := true, laidLooks := .later }
def DiskPlaysUptoCardSaid : Prop := Claim7.holds Tryd.pinned (.plain (OpenSpec.upto diskPlaysSpec)) diskPlaysUptoCard
end Rows
end Go.Proofs.YthmjjdfjegjfeaaDoor
