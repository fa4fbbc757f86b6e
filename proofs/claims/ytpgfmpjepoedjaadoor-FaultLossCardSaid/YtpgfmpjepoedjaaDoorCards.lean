/-
  DERIVED. GIVEN WITH THE SEED: THE CARDS: each row of YtpgfmpjepoedjaaDoorRows.lean that lists a variable, with what it lists TIED to the program's text (the seventh form; the later family's looks); each row that meets fmt, with fmt's text TOLD by the authors' own Lean function (tested against real Go, not proved from fmt's source: count such statements apart). THE CARD IS WHAT COUNTS. Prove the row's statement (the work); the ties are given (YtpgfmpjepoedjaaDoorTie.lean); close each card by the builder's one call (the guide's Derived/Test/ToyasCard.lean, 'card_holds'). Laid BY PROGRAM, IN A SANDBOX (cutbox-door.mjs). By AI agents, Wed Nov 11 2026. No macro, syntax, notation, axiom, sorry.
-/
import Derived.Test.YtpgfmpjepoedjaaDoorRows
import GoSem.ClaimSeven
namespace Go.Proofs.YtpgfmpjepoedjaaDoor
namespace Rows

/-- THE TIED CARD OF 'stavelaw1.FaultRuns'. -/
def faultRunsCard : Claim7 := { stood := { row := faultRunsRow, standIns := [], harness := (true, "757aa7a29f42979d47b24c0a7733cffdc7a021d67d290323b262a15f08c51500"), looks := true }, kinds := [], alts := [], laidByText := true, laidKinds := [.handle], laidTests := true, laidLooks := .later }
def FaultRunsCardSaid : Prop := Claim7.holds Tryd.pinned (.plain (OpenSpec.ofChange faultRunsSpec)) faultRunsCard

/-- THE TIED CARD OF 'stavelaw1.FaultNone'. -/
def faultNoneCard : Claim7 := { stood := { row := faultNoneRow, standIns := [], harness := (true, "757aa7a29f42979d47b24c0a7733cffdc7a021d67d290323b262a15f08c51500"), looks := true }, kinds := [], alts := [], laidByText := true, laidKinds := [.handle], laidTests := true, laidLooks := .later }
def FaultNoneCardSaid : Prop := Claim7.holds Tryd.pinned (.plain (OpenSpec.ofChange faultNoneSpec)) faultNoneCard

/-- THE TIED CARD OF 'stavelaw1.FaultInner'. -/
def faultInnerCard : Claim7 := { stood := { row := faultInnerRow, standIns := [], harness := (true, "757aa7a29f42979d47b24c0a7733cffdc7a021d67d290323b262a15f08c51500"), looks := true }, kinds := [], alts := [], laidByText := true, laidKinds := [.handle], laidTests := true, laidLooks := .later }
def FaultInnerCardSaid : Prop := Claim7.holds Tryd.pinned (.plain (OpenSpec.ofChange faultInnerSpec)) faultInnerCard

/-- THE TIED CARD OF 'stavelaw1.FaultLoss'. -/
def faultLossCard : Claim7 := { stood := { row := faultLossRow, standIns := [], harness := (true, "757aa7a29f42979d47b24c0a7733cffdc7a021d67d290323b262a15f08c51500"), looks := true }, kinds := [], alts := [], laidByText := true, laidKinds := [.handle], laidTests := true, laidLooks := .later }
def FaultLossCardSaid : Prop := Claim7.holds Tryd.pinned (.plain (OpenSpec.ofChange faultLossSpec)) faultLossCard

/-- THE SECOND FORM's CARD OF 'stavelaw1.FaultRuns'. -/
def faultRunsUptoCard : Claim7 := { stood := { row := faultRunsUptoRow, standIns := [], harness := (true, "757aa7a29f42979d47b24c0a7733cffdc7a021d67d290323b262a15f08c51500"), looks := true }, kinds := [], alts := [], laidByText := true, laidKinds := [.handle], laidTests := true, laidLooks := .later }
def FaultRunsUptoCardSaid : Prop := Claim7.holds Tryd.pinned (.plain (OpenSpec.upto faultRunsSpec)) faultRunsUptoCard

/-- THE SECOND FORM's CARD OF 'stavelaw1.FaultNone'. -/
def faultNoneUptoCard : Claim7 := { stood := { row := faultNoneUptoRow, standIns := [], harness := (true, "757aa7a29f42979d47b24c0a7733cffdc7a021d67d290323b262a15f08c51500"), looks := true }, kinds := [], alts := [], laidByText := true, laidKinds := [.handle], laidTests := true, laidLooks := .later }
def FaultNoneUptoCardSaid : Prop := Claim7.holds Tryd.pinned (.plain (OpenSpec.upto faultNoneSpec)) faultNoneUptoCard

/-- THE SECOND FORM's CARD OF 'stavelaw1.FaultInner'. -/
def faultInnerUptoCard : Claim7 := { stood := { row := faultInnerUptoRow, standIns := [], harness := (true, "757aa7a29f42979d47b24c0a7733cffdc7a021d67d290323b262a15f08c51500"), looks := true }, kinds := [], alts := [], laidByText := true, laidKinds := [.handle], laidTests := true, laidLooks := .later }
def FaultInnerUptoCardSaid : Prop := Claim7.holds Tryd.pinned (.plain (OpenSpec.upto faultInnerSpec)) faultInnerUptoCard

/-- THE SECOND FORM's CARD OF 'stavelaw1.FaultLoss'. -/
def faultLossUptoCard : Claim7 := { stood := { row := faultLossUptoRow, standIns := [], harness := (true, "757aa7a29f42979d47b24c0a7733cffdc7a021d67d290323b262a15f08c51500"), looks := true }, kinds := [], alts := [], laidByText := true, laidKinds := [.handle], laidTests := true, laidLooks := .later }
def FaultLossUptoCardSaid : Prop := Claim7.holds Tryd.pinned (.plain (OpenSpec.upto faultLossSpec)) faultLossUptoCard
end Rows
end Go.Proofs.YtpgfmpjepoedjaaDoor
