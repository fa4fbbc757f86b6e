/-
  DERIVED. GIVEN WITH THE SEED: THE CARDS: each row of YtepeilglbedgdaaGreatDoorRows.lean that lists a variable, with what it lists TIED to the program's text (the seventh form; the later family's looks); each row that meets fmt, with fmt's text TOLD by the authors' own Lean function (tested against real Go, not proved from fmt's source: count such statements apart). THE CARD IS WHAT COUNTS. Prove the row's statement (the work); the ties are given (YtepeilglbedgdaaGreatDoorTie.lean); close each card by the builder's one call (the guide's Derived/Test/ToyasCard.lean, 'card_holds'). Laid BY PROGRAM, IN A SANDBOX (cutbox-door.mjs). By AI agents, Wed Nov 11 2026. No macro, syntax, notation, axiom, sorry.
-/
import Derived.Test.YtepeilglbedgdaaGreatDoorRows
import GoSem.ClaimSeven
namespace Go.Proofs.YtepeilglbedgdaaGreatDoor
namespace Rows

/-- THE TIED CARD OF 'stavetop.TopRetention'. -/
def topRetentionCard : Claim7 := { stood := { row := topRetentionRow, standIns := [], harness := (true, "0cb66b075be2326e287ec28bf4f90176a22813707f997a64b32bd5491fbd1b1a"), looks := true }, kinds := [], alts := [], laidByText := true, laidKinds := [.data, .handle, .pinned], laidTests := true, laidLooks := .later }
def TopRetentionCardSaid : Prop := Claim7.holds Tryz.pinned (.plain (OpenSpec.ofChange topRetentionSpec)) topRetentionCard

/-- THE TIED CARD OF 'stavetop.TopLoss'. -/
def topLossCard : Claim7 := { stood := { row := topLossRow, standIns := [], harness := (true, "0cb66b075be2326e287ec28bf4f90176a22813707f997a64b32bd5491fbd1b1a"), looks := true }, kinds := [], alts := [], laidByText := true, laidKinds := [.data, .handle, .pinned], laidTests := true, laidLooks := .later }
def TopLossCardSaid : Prop := Claim7.holds Tryz.pinned (.plain (OpenSpec.ofChange topLossSpec)) topLossCard

/-- THE TIED CARD OF 'stavetop.TopCatalog'. -/
def topCatalogCard : Claim7 := { stood := { row := topCatalogRow, standIns := [], harness := (true, "0cb66b075be2326e287ec28bf4f90176a22813707f997a64b32bd5491fbd1b1a"), looks := true }, kinds := [], alts := [], laidByText := true, laidKinds := [.data, .handle, .pinned], laidTests := true, laidLooks := .later }
def TopCatalogCardSaid : Prop := Claim7.holds Tryz.pinned (.plain (OpenSpec.ofChange topCatalogSpec)) topCatalogCard

/-- THE TIED CARD OF 'stavetop.TopApart'. -/
def topApartCard : Claim7 := { stood := { row := topApartRow, standIns := [], harness := (true, "0cb66b075be2326e287ec28bf4f90176a22813707f997a64b32bd5491fbd1b1a"), looks := true }, kinds := [], alts := [], laidByText := true, laidKinds := [.data, .handle, .pinned], laidTests := true, laidLooks := .later }
def TopApartCardSaid : Prop := Claim7.holds Tryz.pinned (.plain (OpenSpec.ofChange topApartSpec)) topApartCard

/-- THE TIED CARD OF 'stavetop.TopReplaced'. -/
def topReplacedCard : Claim7 := { stood := { row := topReplacedRow, standIns := [], harness := (true, "0cb66b075be2326e287ec28bf4f90176a22813707f997a64b32bd5491fbd1b1a"), looks := true }, kinds := [], alts := [], laidByText := true, laidKinds := [.data, .handle, .pinned], laidTests := true, laidLooks := .later }
def TopReplacedCardSaid : Prop := Claim7.holds Tryz.pinned (.plain (OpenSpec.ofChange topReplacedSpec)) topReplacedCard

/-- THE TIED CARD OF 'stavetop.TopSame'. -/
def topSameCard : Claim7 := { stood := { row := topSameRow, standIns := [], harness := (true, "0cb66b075be2326e287ec28bf4f90176a22813707f997a64b32bd5491fbd1b1a"), looks := true }, kinds := [], alts := [], laidByText := true, laidKinds := [.data, .handle, .pinned], laidTests := true, laidLooks := .later }
def TopSameCardSaid : Prop := Claim7.holds Tryz.pinned (.plain (OpenSpec.ofChange topSameSpec)) topSameCard

/-- THE SECOND FORM's CARD OF 'stavetop.TopRetention'. -/
def topRetentionUptoCard : Claim7 := { stood := { row := topRetentionUptoRow, standIns := [], harness := (true, "0cb66b075be2326e287ec28bf4f90176a22813707f997a64b32bd5491fbd1b1a"), looks := true }, kinds := [], alts := [], laidByText := true, laidKinds := [.data, .handle, .pinned], laidTests := true, laidLooks := .later }
def TopRetentionUptoCardSaid : Prop := Claim7.holds Tryz.pinned (.plain (OpenSpec.upto topRetentionSpec)) topRetentionUptoCard

/-- THE SECOND FORM's CARD OF 'stavetop.TopLoss'. -/
def topLossUptoCard : Claim7 := { stood := { row := topLossUptoRow, standIns := [], harness := (true, "0cb66b075be2326e287ec28bf4f90176a22813707f997a64b32bd5491fbd1b1a"), looks := true }, kinds := [], alts := [], laidByText := true, laidKinds := [.data, .handle, .pinned], laidTests := true, laidLooks := .later }
def TopLossUptoCardSaid : Prop := Claim7.holds Tryz.pinned (.plain (OpenSpec.upto topLossSpec)) topLossUptoCard

/-- THE SECOND FORM's CARD OF 'stavetop.TopCatalog'. -/
def topCatalogUptoCard : Claim7 := { stood := { row := topCatalogUptoRow, standIns := [], harness := (true, "0cb66b075be2326e287ec28bf4f90176a22813707f997a64b32bd5491fbd1b1a"), looks := true }, kinds := [], alts := [], laidByText := true, laidKinds := [.data, .handle, .pinned], laidTests := true, laidLooks := .later }
def TopCatalogUptoCardSaid : Prop := Claim7.holds Tryz.pinned (.plain (OpenSpec.upto topCatalogSpec)) topCatalogUptoCard

/-- THE SECOND FORM's CARD OF 'stavetop.TopApart'. -/
def topApartUptoCard : Claim7 := { stood := { row := topApartUptoRow, standIns := [], harness := (true, "0cb66b075be2326e287ec28bf4f90176a22813707f997a64b32bd5491fbd1b1a"), looks := true }, kinds := [], alts := [], laidByText := true, laidKinds := [.data, .handle, .pinned], laidTests := true, laidLooks := .later }
def TopApartUptoCardSaid : Prop := Claim7.holds Tryz.pinned (.plain (OpenSpec.upto topApartSpec)) topApartUptoCard

/-- THE SECOND FORM's CARD OF 'stavetop.TopReplaced'. -/
def topReplacedUptoCard : Claim7 := { stood := { row := topReplacedUptoRow, standIns := [], harness := (true, "0cb66b075be2326e287ec28bf4f90176a22813707f997a64b32bd5491fbd1b1a"), looks := true }, kinds := [], alts := [], laidByText := true, laidKinds := [.data, .handle, .pinned], laidTests := true, laidLooks := .later }
def TopReplacedUptoCardSaid : Prop := Claim7.holds Tryz.pinned (.plain (OpenSpec.upto topReplacedSpec)) topReplacedUptoCard

/-- THE SECOND FORM's CARD OF 'stavetop.TopSame'. -/
def topSameUptoCard : Claim7 := { stood := { row := topSameUptoRow, standIns := [], harness := (true, "0cb66b075be2326e287ec28bf4f90176a22813707f997a64b32bd5491fbd1b1a"), looks := true }, kinds := [], alts := [], laidByText := true, laidKinds := [.data, .handle, .pinned], laidTests := true, laidLooks := .later }
def TopSameUptoCardSaid : Prop := Claim7.holds Tryz.pinned (.plain (OpenSpec.upto topSameSpec)) topSameUptoCard
end Rows
end Go.Proofs.YtepeilglbedgdaaGreatDoor
