/-
  No cell of these rows narrows 'for every input' (looked for: loops, veiled, ifaces, maps, wideKeys, modest, calm, conditions, laid).
  DERIVED. THE GIVEN ROWS OF THIS SEAT. 3 by the template 'for every input the law returns true; each argument reads behind the call as it read before'; 0 by the template 'total and deterministic' (their statements: YtbfaglbfpmnnmaaTotals.lean).
  GIVEN WITH THE SEED: the statements are not yours to turn. If you find one false, say at which input.
  Laid BY PROGRAM, IN A SANDBOX (cutbox-rows.mjs): the forced cells as the released guide's own fill.sh prints them over the translation 62a6aceee6ac7d92… (all of the seat's roots in one cut). By AI agents, Wed Nov 11 2026. No macro, syntax, notation, axiom, sorry.
-/
import Derived.Test.YtbfaglbfpmnnmaaChecked
import GoSem.Claim
import GoSem.ClaimJoined
import GoSem.ClaimMapViews
import Derived.JoinedTies
import Derived.KernelRfl
namespace Go.Proofs.Ytbfaglbfpmnnmaa
/- THE CELL 'sum', in the pinned program and in every row, IS THE sha256 OF THE DUMP (.gsa) THAT YtbfaglbfpmnnmaaProg.lean LOADS. Nothing in Lean hashes anything: it is a label: what it is worth is what the hold of that sum in a sandbox is worth. -/
noncomputable def Try.pinned : Pinned := { name := "ytbfaglbfpmnnmaa", sum := "62a6aceee6ac7d92ed26dbaef613e9207ad57d6b64235d04f86ce1f2fe40be3d", checked := Try.checked }
namespace Rows
def none {H : Type} : Left H := { results := [], args := [] }

/-- 'stavelaw23.ReplyRuns': WHATEVER THE INPUT: true; the input reads as it did. -/
def replyRunsSpec : ChangeSpec := { name := "replyRuns", fn := fun _ => fun
  | [] => { results := [.lit (.bool true)], args := [] }
  | _ => none }
def replyRunsRow : OpenClaim := { program := "ytbfaglbfpmnnmaa", sum := "62a6aceee6ac7d92ed26dbaef613e9207ad57d6b64235d04f86ce1f2fe40be3d", func := "stave/stavelaw23.ReplyRuns", spec := "replyRuns", unfollowed := true, recurses := true, apart := false }
def ReplyRunsSaid : Prop := replyRunsRow.holds Try.pinned (OpenSpec.ofChange replyRunsSpec)

/-- ITS FALSE NEIGHBOUR: 'it returns false'. Refute it at one input. -/
def replyRunsWrong : ChangeSpec := { name := "replyRuns", fn := fun _ => fun
  | [] => { results := [.lit (.bool false)], args := [] }
  | _ => none }
def ReplyRunsWrongFalsely : Prop := replyRunsRow.holds Try.pinned (OpenSpec.ofChange replyRunsWrong)

/-- 'stavelaw23.ReplyEnds': WHATEVER THE INPUT: true; the input reads as it did. -/
def replyEndsSpec : ChangeSpec := { name := "replyEnds", fn := fun _ => fun
  | [d1, d2, d3] => { results := [.lit (.bool true)], args := [d1, d2, d3] }
  | _ => none }
def replyEndsRow : OpenClaim := { program := "ytbfaglbfpmnnmaa", sum := "62a6aceee6ac7d92ed26dbaef613e9207ad57d6b64235d04f86ce1f2fe40be3d", func := "stave/stavelaw23.ReplyEnds", spec := "replyEnds", unfollowed := true, recurses := true, apart := false }
def ReplyEndsSaid : Prop := replyEndsRow.holds Try.pinned (OpenSpec.ofChange replyEndsSpec)

/-- ITS FALSE NEIGHBOUR: 'it returns false'. Refute it at one input. -/
def replyEndsWrong : ChangeSpec := { name := "replyEnds", fn := fun _ => fun
  | [d1, d2, d3] => { results := [.lit (.bool false)], args := [d1, d2, d3] }
  | _ => none }
def ReplyEndsWrongFalsely : Prop := replyEndsRow.holds Try.pinned (OpenSpec.ofChange replyEndsWrong)

/-- 'stavelaw23.ReplyCanon': WHATEVER THE INPUT: true; the input reads as it did. -/
def replyCanonSpec : ChangeSpec := { name := "replyCanon", fn := fun _ => fun
  | [d1, d2, d3, d4] => { results := [.lit (.bool true)], args := [d1, d2, d3, d4] }
  | _ => none }
def replyCanonRow : OpenClaim := { program := "ytbfaglbfpmnnmaa", sum := "62a6aceee6ac7d92ed26dbaef613e9207ad57d6b64235d04f86ce1f2fe40be3d", func := "stave/stavelaw23.ReplyCanon", spec := "replyCanon", unfollowed := true, recurses := true, apart := false }
def ReplyCanonSaid : Prop := replyCanonRow.holds Try.pinned (OpenSpec.ofChange replyCanonSpec)

/-- ITS FALSE NEIGHBOUR: 'it returns false'. Refute it at one input. -/
def replyCanonWrong : ChangeSpec := { name := "replyCanon", fn := fun _ => fun
  | [d1, d2, d3, d4] => { results := [.lit (.bool false)], args := [d1, d2, d3, d4] }
  | _ => none }
def ReplyCanonWrongFalsely : Prop := replyCanonRow.holds Try.pinned (OpenSpec.ofChange replyCanonWrong)

/- THE SECOND FORM. 'bulk': how many values and letters a reading holds, each counted each time it is reached (what is shared counts as often as it is met; a slice's spare places count too). A statement '..UptoSaid' is the law's where the arguments, and the package variables that the reading takes, are together of bulk at most 1048576: NARROWER than '..Said'. Prove '..Said' where nothing that the law and all that it calls make is longer than what came in: it says more and counts as full. Else prove '..UptoSaid'. A law counts once. -/
mutual
def uptoBulk {H : Type} : DataW H → Nat
  | .lit (.string bytes) => bytes.length + 1
  | .lit _ => 1
  | .nil => 1
  | .ptr d => uptoBulk d + 1
  | .slice elems spare => uptoBulkAll elems + uptoBulkAll spare + 1
  | .agg parts => uptoBulkAll parts + 1
  | .iface _ d => uptoBulk d + 1
  | .map entries => uptoBulkEntries entries + 1
  | .held _ => 1
def uptoBulkAll {H : Type} : List (DataW H) → Nat
  | [] => 0
  | d :: r => uptoBulk d + uptoBulkAll r
def uptoBulkEntries {H : Type} : List (Lit × DataW H) → Nat
  | [] => 0
  | x :: r => uptoBulkEntry x + uptoBulkEntries r
def uptoBulkEntry {H : Type} : Lit × DataW H → Nat
  | (.string bytes, d) => bytes.length + uptoBulk d + 1
  | (_, d) => uptoBulk d + 1
 end
def uptoSmall : (H : Type) → List (DataW H) → Bool := fun _ ds => decide (uptoBulkAll ds ≤ 1048576)
def OpenSpec.upto (s : _root_.Go.ChangeSpec) : _root_.Go.OpenSpec := { _root_.Go.OpenSpec.ofChange s with cond := some uptoSmall }

/-- 'stavelaw23.ReplyRuns', WHERE WHAT IT READS IS OF BULK AT MOST 1048576: true; the input reads as it did. -/
def replyRunsUptoRow : OpenClaim := { program := "ytbfaglbfpmnnmaa", sum := "62a6aceee6ac7d92ed26dbaef613e9207ad57d6b64235d04f86ce1f2fe40be3d", func := "stave/stavelaw23.ReplyRuns", spec := "replyRuns", unfollowed := true, recurses := true, apart := false, narrowed := true }
def ReplyRunsUptoSaid : Prop := replyRunsUptoRow.holds Try.pinned (OpenSpec.upto replyRunsSpec)

/-- 'stavelaw23.ReplyEnds', WHERE WHAT IT READS IS OF BULK AT MOST 1048576: true; the input reads as it did. -/
def replyEndsUptoRow : OpenClaim := { program := "ytbfaglbfpmnnmaa", sum := "62a6aceee6ac7d92ed26dbaef613e9207ad57d6b64235d04f86ce1f2fe40be3d", func := "stave/stavelaw23.ReplyEnds", spec := "replyEnds", unfollowed := true, recurses := true, apart := false, narrowed := true }
def ReplyEndsUptoSaid : Prop := replyEndsUptoRow.holds Try.pinned (OpenSpec.upto replyEndsSpec)

/-- 'stavelaw23.ReplyCanon', WHERE WHAT IT READS IS OF BULK AT MOST 1048576: true; the input reads as it did. -/
def replyCanonUptoRow : OpenClaim := { program := "ytbfaglbfpmnnmaa", sum := "62a6aceee6ac7d92ed26dbaef613e9207ad57d6b64235d04f86ce1f2fe40be3d", func := "stave/stavelaw23.ReplyCanon", spec := "replyCanon", unfollowed := true, recurses := true, apart := false, narrowed := true }
def ReplyCanonUptoSaid : Prop := replyCanonUptoRow.holds Try.pinned (OpenSpec.upto replyCanonSpec)

end Rows
end Go.Proofs.Ytbfaglbfpmnnmaa
