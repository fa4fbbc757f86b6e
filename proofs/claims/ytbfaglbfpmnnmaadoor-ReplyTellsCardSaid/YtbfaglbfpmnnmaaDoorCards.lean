/-
  DERIVED. GIVEN WITH THE SEED: THE CARDS: each row of YtbfaglbfpmnnmaaDoorRows.lean that lists a variable, with what it lists TIED to the program's text (the seventh form; the later family's looks); each row that meets fmt, with fmt's text TOLD by the authors' own Lean function (tested against real Go, not proved from fmt's source: count such statements apart). THE CARD IS WHAT COUNTS. Prove the row's statement (the work); the ties are given (YtbfaglbfpmnnmaaDoorTie.lean); close each card by the builder's one call (the guide's Derived/Test/ToyasCard.lean, 'card_holds'). Laid BY PROGRAM, IN A SANDBOX (cutbox-door.mjs). By AI agents, Wed Nov 11 2026. No macro, syntax, notation, axiom, sorry.
-/
import Derived.Test.YtbfaglbfpmnnmaaDoorRows
import GoSem.ClaimSeven
namespace Go.Proofs.YtbfaglbfpmnnmaaDoor
namespace Rows

/-- THE TIED CARD OF 'stavelaw18.DedupRuns'. -/
def dedupRunsCard : Claim7 := { stood := { row := dedupRunsRow, standIns := [], harness := (true, "ca2f8e59ced997886eea9cd9c23e7b913d71746124ada79b41594b687347b671"), looks := true }, kinds := [], alts := [], laidByText := true, laidKinds := [.handle], laidTests := true, laidLooks := .later }
def DedupRunsCardSaid : Prop := Claim7.holds Tryd.pinned (.plain (OpenSpec.ofChange dedupRunsSpec)) dedupRunsCard

/-- THE TIED CARD OF 'stavelaw18.DedupPlays'. -/
def dedupPlaysCard : Claim7 := { stood := { row := dedupPlaysRow, standIns := [], harness := (true, "ca2f8e59ced997886eea9cd9c23e7b913d71746124ada79b41594b687347b671"), looks := true }, kinds := [], alts := [], laidByText := true, laidKinds := [.handle], laidTests := true, laidLooks := .later }
def DedupPlaysCardSaid : Prop := Claim7.holds Tryd.pinned (.plain (OpenSpec.ofChange dedupPlaysSpec)) dedupPlaysCard

/-- THE TIED CARD OF 'stavelaw18.DedupOnce'. -/
def dedupOnceCard : Claim7 := { stood := { row := dedupOnceRow, standIns := [], harness := (true, "ca2f8e59ced997886eea9cd9c23e7b913d71746124ada79b41594b687347b671"), looks := true }, kinds := [], alts := [], laidByText := true, laidKinds := [.handle], laidTests := true, laidLooks := .later }
def DedupOnceCardSaid : Prop := Claim7.holds Tryd.pinned (.plain (OpenSpec.ofChange dedupOnceSpec)) dedupOnceCard

/-- THE TIED CARD OF 'stavelaw18.DedupApart'. -/
def dedupApartCard : Claim7 := { stood := { row := dedupApartRow, standIns := [], harness := (true, "ca2f8e59ced997886eea9cd9c23e7b913d71746124ada79b41594b687347b671"), looks := true }, kinds := [], alts := [], laidByText := true, laidKinds := [.handle], laidTests := true, laidLooks := .later }
def DedupApartCardSaid : Prop := Claim7.holds Tryd.pinned (.plain (OpenSpec.ofChange dedupApartSpec)) dedupApartCard

/-- THE TIED CARD OF 'stavelaw18.DedupLast'. -/
def dedupLastCard : Claim7 := { stood := { row := dedupLastRow, standIns := [], harness := (true, "ca2f8e59ced997886eea9cd9c23e7b913d71746124ada79b41594b687347b671"), looks := true }, kinds := [], alts := [], laidByText := true, laidKinds := [.handle], laidTests := true, laidLooks := .later }
def DedupLastCardSaid : Prop := Claim7.holds Tryd.pinned (.plain (OpenSpec.ofChange dedupLastSpec)) dedupLastCard

/-- THE TIED CARD OF 'stavelaw18.DedupTwin'. -/
def dedupTwinCard : Claim7 := { stood := { row := dedupTwinRow, standIns := [], harness := (true, "ca2f8e59ced997886eea9cd9c23e7b913d71746124ada79b41594b687347b671"), looks := true }, kinds := [], alts := [], laidByText := true, laidKinds := [.handle], laidTests := true, laidLooks := .later }
def DedupTwinCardSaid : Prop := Claim7.holds Tryd.pinned (.plain (OpenSpec.ofChange dedupTwinSpec)) dedupTwinCard

/-- THE TIED CARD OF 'stavelaw23.ReplyTells'. -/
def replyTellsCard : Claim7 := { stood := { row := replyTellsRow, standIns := [], harness := (true, "ca2f8e59ced997886eea9cd9c23e7b913d71746124ada79b41594b687347b671"), looks := true }, kinds := [], alts := [], laidByText := true, laidKinds := [.handle], laidTests := true, laidLooks := .later }
def ReplyTellsCardSaid : Prop := Claim7.holds Tryd.pinned (.plain (OpenSpec.ofChange replyTellsSpec)) replyTellsCard

/-- THE TIED CARD OF 'stavelaw23.ReplyBack'. -/
def replyBackCard : Claim7 := { stood := { row := replyBackRow, standIns := [], harness := (true, "ca2f8e59ced997886eea9cd9c23e7b913d71746124ada79b41594b687347b671"), looks := true }, kinds := [], alts := [], laidByText := true, laidKinds := [.handle], laidTests := true, laidLooks := .later }
def ReplyBackCardSaid : Prop := Claim7.holds Tryd.pinned (.plain (OpenSpec.ofChange replyBackSpec)) replyBackCard

/-- THE SECOND FORM's CARD OF 'stavelaw18.DedupRuns'. -/
def dedupRunsUptoCard : Claim7 := { stood := { row := dedupRunsUptoRow, standIns := [], harness := (true, "ca2f8e59ced997886eea9cd9c23e7b913d71746124ada79b41594b687347b671"), looks := true }, kinds := [], alts := [], laidByText := true, laidKinds := [.handle], laidTests := true, laidLooks := .later }
def DedupRunsUptoCardSaid : Prop := Claim7.holds Tryd.pinned (.plain (OpenSpec.upto dedupRunsSpec)) dedupRunsUptoCard

/-- THE SECOND FORM's CARD OF 'stavelaw18.DedupPlays'. -/
def dedupPlaysUptoCard : Claim7 := { stood := { row := dedupPlaysUptoRow, standIns := [], harness := (true, "ca2f8e59ced997886eea9cd9c23e7b913d71746124ada79b41594b687347b671"), looks := true }, kinds := [], alts := [], laidByText := true, laidKinds := [.handle], laidTests := true, laidLooks := .later }
def DedupPlaysUptoCardSaid : Prop := Claim7.holds Tryd.pinned (.plain (OpenSpec.upto dedupPlaysSpec)) dedupPlaysUptoCard

/-- THE SECOND FORM's CARD OF 'stavelaw18.DedupOnce'. -/
def dedupOnceUptoCard : Claim7 := { stood := { row := dedupOnceUptoRow, standIns := [], harness := (true, "ca2f8e59ced997886eea9cd9c23e7b913d71746124ada79b41594b687347b671"), looks := true }, kinds := [], alts := [], laidByText := true, laidKinds := [.handle], laidTests := true, laidLooks := .later }
def DedupOnceUptoCardSaid : Prop := Claim7.holds Tryd.pinned (.plain (OpenSpec.upto dedupOnceSpec)) dedupOnceUptoCard

/-- THE SECOND FORM's CARD OF 'stavelaw18.DedupApart'. -/
def dedupApartUptoCard : Claim7 := { stood := { row := dedupApartUptoRow, standIns := [], harness := (true, "ca2f8e59ced997886eea9cd9c23e7b913d71746124ada79b41594b687347b671"), looks := true }, kinds := [], alts := [], laidByText := true, laidKinds := [.handle], laidTests := true, laidLooks := .later }
def DedupApartUptoCardSaid : Prop := Claim7.holds Tryd.pinned (.plain (OpenSpec.upto dedupApartSpec)) dedupApartUptoCard

/-- THE SECOND FORM's CARD OF 'stavelaw18.DedupLast'. -/
def dedupLastUptoCard : Claim7 := { stood := { row := dedupLastUptoRow, standIns := [], harness := (true, "ca2f8e59ced997886eea9cd9c23e7b913d71746124ada79b41594b687347b671"), looks := true }, kinds := [], alts := [], laidByText := true, laidKinds := [.handle], laidTests := true, laidLooks := .later }
def DedupLastUptoCardSaid : Prop := Claim7.holds Tryd.pinned (.plain (OpenSpec.upto dedupLastSpec)) dedupLastUptoCard

/-- THE SECOND FORM's CARD OF 'stavelaw18.DedupTwin'. -/
def dedupTwinUptoCard : Claim7 := { stood := { row := dedupTwinUptoRow, standIns := [], harness := (true, "ca2f8e59ced997886eea9cd9c23e7b913d71746124ada79b41594b687347b671"), looks := true }, kinds := [], alts := [], laidByText := true, laidKinds := [.handle], laidTests := true, laidLooks := .later }
def DedupTwinUptoCardSaid : Prop := Claim7.holds Tryd.pinned (.plain (OpenSpec.upto dedupTwinSpec)) dedupTwinUptoCard

/-- THE SECOND FORM's CARD OF 'stavelaw23.ReplyTells'. -/
def replyTellsUptoCard : Claim7 := { stood := { row := replyTellsUptoRow, standIns := [], harness := (true, "ca2f8e59ced997886eea9cd9c23e7b913d71746124ada79b41594b687347b671"), looks := true }, kinds := [], alts := [], laidByText := true, laidKinds := [.handle], laidTests := true, laidLooks := .later }
def ReplyTellsUptoCardSaid : Prop := Claim7.holds Tryd.pinned (.plain (OpenSpec.upto replyTellsSpec)) replyTellsUptoCard

/-- THE SECOND FORM's CARD OF 'stavelaw23.ReplyBack'. -/
def replyBackUptoCard : Claim7 := { stood := { row := replyBackUptoRow, standIns := [], harness := (true, "ca2f8e59ced997886eea9cd9c23e7b913d71746124ada79b41594b687347b671"), looks := true }, kinds := [], alts := [], laidByText := true, laidKinds := [.handle], laidTests := true, laidLooks := .later }
def ReplyBackUptoCardSaid : Prop := Claim7.holds Tryd.pinned (.plain (OpenSpec.upto replyBackSpec)) replyBackUptoCard
end Rows
end Go.Proofs.YtbfaglbfpmnnmaaDoor
