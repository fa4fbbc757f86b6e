/-
  DERIVED. GIVEN WITH THE SEED: THE CARDS: each row of YtjajjblppogfoaaDoorRows.lean that lists a variable, with what it lists TIED to the program's text (the seventh form; the later family's looks); each row that meets fmt, with fmt's text TOLD by the authors' own Lean function (tested against real Go, not proved from fmt's source: count such statements apart). THE CARD IS WHAT COUNTS. Prove the row's statement (the work); the ties are given (YtjajjblppogfoaaDoorTie.lean); close each card by the builder's one call (the guide's Derived/Test/ToyasCard.lean, 'card_holds'). Laid BY PROGRAM, IN A SANDBOX (cutbox-door.mjs). By AI agents, Wed Nov 11 2026. No macro, syntax, notation, axiom, sorry.
-/
import Derived.Test.YtjajjblppogfoaaDoorRows
import GoSem.ClaimSeven
namespace Go.Proofs.YtjajjblppogfoaaDoor
namespace Rows

/-- THE TIED CARD OF 'stavelaw1.FaultRuns'. -/
def faultRunsCard : Claim7 := { stood := { row := faultRunsRow, standIns := [], harness := (true, "d20a02b7f63eeac66bd3b0792cab0483a3037bcd726a0caba9b867251db950a8"), looks := true }, kinds := [], alts := [], laidByText := true, laidKinds := [.handle], laidTests := true, laidLooks := .later }
def FaultRunsCardSaid : Prop := Claim7.holds Tryd.pinned (.plain (OpenSpec.ofChange faultRunsSpec)) faultRunsCard

/-- THE TIED CARD OF 'stavelaw1.FaultNone'. -/
def faultNoneCard : Claim7 := { stood := { row := faultNoneRow, standIns := [], harness := (true, "d20a02b7f63eeac66bd3b0792cab0483a3037bcd726a0caba9b867251db950a8"), looks := true }, kinds := [], alts := [], laidByText := true, laidKinds := [.handle], laidTests := true, laidLooks := .later }
def FaultNoneCardSaid : Prop := Claim7.holds Tryd.pinned (.plain (OpenSpec.ofChange faultNoneSpec)) faultNoneCard

/-- THE TIED CARD OF 'stavelaw1.FaultInner'. -/
def faultInnerCard : Claim7 := { stood := { row := faultInnerRow, standIns := [], harness := (true, "d20a02b7f63eeac66bd3b0792cab0483a3037bcd726a0caba9b867251db950a8"), looks := true }, kinds := [], alts := [], laidByText := true, laidKinds := [.handle], laidTests := true, laidLooks := .later }
def FaultInnerCardSaid : Prop := Claim7.holds Tryd.pinned (.plain (OpenSpec.ofChange faultInnerSpec)) faultInnerCard

/-- THE TIED CARD OF 'stavelaw1.FaultLoss'. -/
def faultLossCard : Claim7 := { stood := { row := faultLossRow, standIns := [], harness := (true, "d20a02b7f63eeac66bd3b0792cab0483a3037bcd726a0caba9b867251db950a8"), looks := true }, kinds := [], alts := [], laidByText := true, laidKinds := [.handle], laidTests := true, laidLooks := .later }
def FaultLossCardSaid : Prop := Claim7.holds Tryd.pinned (.plain (OpenSpec.ofChange faultLossSpec)) faultLossCard

/-- THE TIED CARD OF 'stavelaw17.PlogRuns'. -/
def plogRunsCard : Claim7 := { stood := { row := plogRunsRow, standIns := [], harness := (true, "d20a02b7f63eeac66bd3b0792cab0483a3037bcd726a0caba9b867251db950a8"), looks := true }, kinds := [], alts := [], laidByText := true, laidKinds := [.handle], laidTests := true, laidLooks := .later }
def PlogRunsCardSaid : Prop := Claim7.holds Tryd.pinned (.plain (OpenSpec.ofChange plogRunsSpec)) plogRunsCard

/-- THE TIED CARD OF 'stavelaw17.PlogEnd'. -/
def plogEndCard : Claim7 := { stood := { row := plogEndRow, standIns := [], harness := (true, "d20a02b7f63eeac66bd3b0792cab0483a3037bcd726a0caba9b867251db950a8"), looks := true }, kinds := [], alts := [], laidByText := true, laidKinds := [.handle], laidTests := true, laidLooks := .later }
def PlogEndCardSaid : Prop := Claim7.holds Tryd.pinned (.plain (OpenSpec.ofChange plogEndSpec)) plogEndCard

/-- THE TIED CARD OF 'stavelaw17.PlogRefuses'. -/
def plogRefusesCard : Claim7 := { stood := { row := plogRefusesRow, standIns := [], harness := (true, "d20a02b7f63eeac66bd3b0792cab0483a3037bcd726a0caba9b867251db950a8"), looks := true }, kinds := [], alts := [], laidByText := true, laidKinds := [.handle], laidTests := true, laidLooks := .later }
def PlogRefusesCardSaid : Prop := Claim7.holds Tryd.pinned (.plain (OpenSpec.ofChange plogRefusesSpec)) plogRefusesCard

/-- THE TIED CARD OF 'stavelaw17.PlogTimes'. -/
def plogTimesCard : Claim7 := { stood := { row := plogTimesRow, standIns := [], harness := (true, "d20a02b7f63eeac66bd3b0792cab0483a3037bcd726a0caba9b867251db950a8"), looks := true }, kinds := [], alts := [], laidByText := true, laidKinds := [.handle], laidTests := true, laidLooks := .later }
def PlogTimesCardSaid : Prop := Claim7.holds Tryd.pinned (.plain (OpenSpec.ofChange plogTimesSpec)) plogTimesCard

/-- THE TIED CARD OF 'stavelaw17.PlogGapless'. -/
def plogGaplessCard : Claim7 := { stood := { row := plogGaplessRow, standIns := [], harness := (true, "d20a02b7f63eeac66bd3b0792cab0483a3037bcd726a0caba9b867251db950a8"), looks := true }, kinds := [], alts := [], laidByText := true, laidKinds := [.handle], laidTests := true, laidLooks := .later }
def PlogGaplessCardSaid : Prop := Claim7.holds Tryd.pinned (.plain (OpenSpec.ofChange plogGaplessSpec)) plogGaplessCard

/-- THE TIED CARD OF 'stavelaw17.PlogTrims'. -/
def plogTrimsCard : Claim7 := { stood := { row := plogTrimsRow, standIns := [], harness := (true, "d20a02b7f63eeac66bd3b0792cab0483a3037bcd726a0caba9b867251db950a8"), looks := true }, kinds := [], alts := [], laidByText := true, laidKinds := [.handle], laidTests := true, laidLooks := .later }
def PlogTrimsCardSaid : Prop := Claim7.holds Tryd.pinned (.plain (OpenSpec.ofChange plogTrimsSpec)) plogTrimsCard

/-- THE TIED CARD OF 'stavelaw17.PlogPlays'. -/
def plogPlaysCard : Claim7 := { stood := { row := plogPlaysRow, standIns := [], harness := (true, "d20a02b7f63eeac66bd3b0792cab0483a3037bcd726a0caba9b867251db950a8"), looks := true }, kinds := [], alts := [], laidByText := true, laidKinds := [.handle], laidTests := true, laidLooks := .later }
def PlogPlaysCardSaid : Prop := Claim7.holds Tryd.pinned (.plain (OpenSpec.ofChange plogPlaysSpec)) plogPlaysCard

/-- THE SECOND FORM's CARD OF 'stavelaw1.FaultRuns'. -/
def faultRunsUptoCard : Claim7 := { stood := { row := faultRunsUptoRow, standIns := [], harness := (true, "d20a02b7f63eeac66bd3b0792cab0483a3037bcd726a0caba9b867251db950a8"), looks := true }, kinds := [], alts := [], laidByText := true, laidKinds := [.handle], laidTests := true, laidLooks := .later }
def FaultRunsUptoCardSaid : Prop := Claim7.holds Tryd.pinned (.plain (OpenSpec.upto faultRunsSpec)) faultRunsUptoCard

/-- THE SECOND FORM's CARD OF 'stavelaw1.FaultNone'. -/
def faultNoneUptoCard : Claim7 := { stood := { row := faultNoneUptoRow, standIns := [], harness := (true, "d20a02b7f63eeac66bd3b0792cab0483a3037bcd726a0caba9b867251db950a8"), looks := true }, kinds := [], alts := [], laidByText := true, laidKinds := [.handle], laidTests := true, laidLooks := .later }
def FaultNoneUptoCardSaid : Prop := Claim7.holds Tryd.pinned (.plain (OpenSpec.upto faultNoneSpec)) faultNoneUptoCard

/-- THE SECOND FORM's CARD OF 'stavelaw1.FaultInner'. -/
def faultInnerUptoCard : Claim7 := { stood := { row := faultInnerUptoRow, standIns := [], harness := (true, "d20a02b7f63eeac66bd3b0792cab0483a3037bcd726a0caba9b867251db950a8"), looks := true }, kinds := [], alts := [], laidByText := true, laidKinds := [.handle], laidTests := true, laidLooks := .later }
def FaultInnerUptoCardSaid : Prop := Claim7.holds Tryd.pinned (.plain (OpenSpec.upto faultInnerSpec)) faultInnerUptoCard

/-- THE SECOND FORM's CARD OF 'stavelaw1.FaultLoss'. -/
def faultLossUptoCard : Claim7 := { stood := { row := faultLossUptoRow, standIns := [], harness := (true, "d20a02b7f63eeac66bd3b0792cab0483a3037bcd726a0caba9b867251db950a8"), looks := true }, kinds := [], alts := [], laidByText := true, laidKinds := [.handle], laidTests := true, laidLooks := .later }
def FaultLossUptoCardSaid : Prop := Claim7.holds Tryd.pinned (.plain (OpenSpec.upto faultLossSpec)) faultLossUptoCard

/-- THE SECOND FORM's CARD OF 'stavelaw17.PlogRuns'. -/
def plogRunsUptoCard : Claim7 := { stood := { row := plogRunsUptoRow, standIns := [], harness := (true, "d20a02b7f63eeac66bd3b0792cab0483a3037bcd726a0caba9b867251db950a8"), looks := true }, kinds := [], alts := [], laidByText := true, laidKinds := [.handle], laidTests := true, laidLooks := .later }
def PlogRunsUptoCardSaid : Prop := Claim7.holds Tryd.pinned (.plain (OpenSpec.upto plogRunsSpec)) plogRunsUptoCard

/-- THE SECOND FORM's CARD OF 'stavelaw17.PlogEnd'. -/
def plogEndUptoCard : Claim7 := { stood := { row := plogEndUptoRow, standIns := [], harness := (true, "d20a02b7f63eeac66bd3b0792cab0483a3037bcd726a0caba9b867251db950a8"), looks := true }, kinds := [], alts := [], laidByText := true, laidKinds := [.handle], laidTests := true, laidLooks := .later }
def PlogEndUptoCardSaid : Prop := Claim7.holds Tryd.pinned (.plain (OpenSpec.upto plogEndSpec)) plogEndUptoCard

/-- THE SECOND FORM's CARD OF 'stavelaw17.PlogRefuses'. -/
def plogRefusesUptoCard : Claim7 := { stood := { row := plogRefusesUptoRow, standIns := [], harness := (true, "d20a02b7f63eeac66bd3b0792cab0483a3037bcd726a0caba9b867251db950a8"), looks := true }, kinds := [], alts := [], laidByText := true, laidKinds := [.handle], laidTests := true, laidLooks := .later }
def PlogRefusesUptoCardSaid : Prop := Claim7.holds Tryd.pinned (.plain (OpenSpec.upto plogRefusesSpec)) plogRefusesUptoCard

/-- THE SECOND FORM's CARD OF 'stavelaw17.PlogTimes'. -/
def plogTimesUptoCard : Claim7 := { stood := { row := plogTimesUptoRow, standIns := [], harness := (true, "d20a02b7f63eeac66bd3b0792cab0483a3037bcd726a0caba9b867251db950a8"), looks := true }, kinds := [], alts := [], laidByText := true, laidKinds := [.handle], laidTests := true, laidLooks := .later }
def PlogTimesUptoCardSaid : Prop := Claim7.holds Tryd.pinned (.plain (OpenSpec.upto plogTimesSpec)) plogTimesUptoCard

/-- THE SECOND FORM's CARD OF 'stavelaw17.PlogGapless'. -/
def plogGaplessUptoCard : Claim7 := { stood := { row := plogGaplessUptoRow, standIns := [], harness := (true, "d20a02b7f63eeac66bd3b0792cab0483a3037bcd726a0caba9b867251db950a8"), looks := true }, kinds := [], alts := [], laidByText := true, laidKinds := [.handle], laidTests := true, laidLooks := .later }
def PlogGaplessUptoCardSaid : Prop := Claim7.holds Tryd.pinned (.plain (OpenSpec.upto plogGaplessSpec)) plogGaplessUptoCard

/-- THE SECOND FORM's CARD OF 'stavelaw17.PlogTrims'. -/
def plogTrimsUptoCard : Claim7 := { stood := { row := plogTrimsUptoRow, standIns := [], harness := (true, "d20a02b7f63eeac66bd3b0792cab0483a3037bcd726a0caba9b867251db950a8"), looks := true }, kinds := [], alts := [], laidByText := true, laidKinds := [.handle], laidTests := true, laidLooks := .later }
def PlogTrimsUptoCardSaid : Prop := Claim7.holds Tryd.pinned (.plain (OpenSpec.upto plogTrimsSpec)) plogTrimsUptoCard

/-- THE SECOND FORM's CARD OF 'stavelaw17.PlogPlays'. -/
def plogPlaysUptoCard : Claim7 := { stood := { row := plogPlaysUptoRow, standIns := [], harness := (true, "d20a02b7f63eeac66bd3b0792cab0483a3037bcd726a0caba9b867251db950a8"), looks := true }, kinds := [], alts := [], laidByText := true, laidKinds := [.handle], laidTests := true, laidLooks := .later }
def PlogPlaysUptoCardSaid : Prop := Claim7.holds Tryd.pinned (.plain (OpenSpec.upto plogPlaysSpec)) plogPlaysUptoCard
end Rows
end Go.Proofs.YtjajjblppogfoaaDoor
