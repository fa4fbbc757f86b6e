/-
  No cell of these rows narrows 'for every input' (looked for: loops, veiled, ifaces, maps, wideKeys, modest, calm, conditions, laid).
  DERIVED. THE GIVEN ROWS OF THIS SEAT. 5 by the template 'for every input the law returns true; each argument reads behind the call as it read before'; 0 by the template 'total and deterministic' (their statements: YtolincflccddhaaTotals.lean).
  GIVEN WITH THE SEED: the statements are not yours to turn. If you find one false, say at which input.
  Laid BY PROGRAM, IN A SANDBOX (cutbox-rows.mjs): the forced cells as the released guide's own fill.sh prints them over the translation 538441d251082434… (all of the seat's roots in one cut). By AI agents, Wed Nov 11 2026. No macro, syntax, notation, axiom, sorry.
-/
import Derived.Test.YtolincflccddhaaChecked
import GoSem.Claim
import GoSem.ClaimJoined
import GoSem.ClaimMapViews
import Derived.JoinedTies
import Derived.KernelRfl
namespace Go.Proofs.Ytolincflccddhaa
/- THE CELL 'sum', in the pinned program and in every row, IS THE sha256 OF THE DUMP (.gsa) THAT YtolincflccddhaaProg.lean LOADS. Nothing in Lean hashes anything: it is a label: what it is worth is what the hold of that sum in a sandbox is worth. -/
noncomputable def Try.pinned : Pinned := { name := "ytolincflccddhaa", sum := "538441d251082434e2e732fbe83cb0545d56ed094902f5868a0b9de11a34538a", checked := Try.checked }
namespace Rows
def none {H : Type} : Left H := { results := [], args := [] }

/-- 'stavelaw16.IndexRuns': WHATEVER THE INPUT: true; the input reads as it did. -/
def indexRunsSpec : ChangeSpec := { name := "indexRuns", fn := fun _ => fun
  | [] => { results := [.lit (.bool true)], args := [] }
  | _ => none }
def indexRunsRow : OpenClaim := { program := "ytolincflccddhaa", sum := "538441d251082434e2e732fbe83cb0545d56ed094902f5868a0b9de11a34538a", func := "stave/stavelaw16.IndexRuns", spec := "indexRuns", unfollowed := true, recurses := true, apart := false }
def IndexRunsSaid : Prop := indexRunsRow.holds Try.pinned (OpenSpec.ofChange indexRunsSpec)

/-- ITS FALSE NEIGHBOUR: 'it returns false'. Refute it at one input. -/
def indexRunsWrong : ChangeSpec := { name := "indexRuns", fn := fun _ => fun
  | [] => { results := [.lit (.bool false)], args := [] }
  | _ => none }
def IndexRunsWrongFalsely : Prop := indexRunsRow.holds Try.pinned (OpenSpec.ofChange indexRunsWrong)

/-- 'stavelaw16.IndexNear': WHATEVER THE INPUT: true; the input reads as it did. -/
def indexNearSpec : ChangeSpec := { name := "indexNear", fn := fun _ => fun
  | [d1, d2, d3] => { results := [.lit (.bool true)], args := [d1, d2, d3] }
  | _ => none }
def indexNearRow : OpenClaim := { program := "ytolincflccddhaa", sum := "538441d251082434e2e732fbe83cb0545d56ed094902f5868a0b9de11a34538a", func := "stave/stavelaw16.IndexNear", spec := "indexNear", unfollowed := true, recurses := true, apart := false }
def IndexNearSaid : Prop := indexNearRow.holds Try.pinned (OpenSpec.ofChange indexNearSpec)

/-- ITS FALSE NEIGHBOUR: 'it returns false'. Refute it at one input. -/
def indexNearWrong : ChangeSpec := { name := "indexNear", fn := fun _ => fun
  | [d1, d2, d3] => { results := [.lit (.bool false)], args := [d1, d2, d3] }
  | _ => none }
def IndexNearWrongFalsely : Prop := indexNearRow.holds Try.pinned (OpenSpec.ofChange indexNearWrong)

/-- 'stavelaw16.IndexPlays': WHATEVER THE INPUT: true; the input reads as it did. -/
def indexPlaysSpec : ChangeSpec := { name := "indexPlays", fn := fun _ => fun
  | [d1, d2, d3, d4] => { results := [.lit (.bool true)], args := [d1, d2, d3, d4] }
  | _ => none }
def indexPlaysRow : OpenClaim := { program := "ytolincflccddhaa", sum := "538441d251082434e2e732fbe83cb0545d56ed094902f5868a0b9de11a34538a", func := "stave/stavelaw16.IndexPlays", spec := "indexPlays", unfollowed := true, recurses := true, apart := false }
def IndexPlaysSaid : Prop := indexPlaysRow.holds Try.pinned (OpenSpec.ofChange indexPlaysSpec)

/-- ITS FALSE NEIGHBOUR: 'it returns false'. Refute it at one input. -/
def indexPlaysWrong : ChangeSpec := { name := "indexPlays", fn := fun _ => fun
  | [d1, d2, d3, d4] => { results := [.lit (.bool false)], args := [d1, d2, d3, d4] }
  | _ => none }
def IndexPlaysWrongFalsely : Prop := indexPlaysRow.holds Try.pinned (OpenSpec.ofChange indexPlaysWrong)

/-- 'stavelaw16.IndexMarks': WHATEVER THE INPUT: true; the input reads as it did. -/
def indexMarksSpec : ChangeSpec := { name := "indexMarks", fn := fun _ => fun
  | [d1, d2, d3, d4] => { results := [.lit (.bool true)], args := [d1, d2, d3, d4] }
  | _ => none }
def indexMarksRow : OpenClaim := { program := "ytolincflccddhaa", sum := "538441d251082434e2e732fbe83cb0545d56ed094902f5868a0b9de11a34538a", func := "stave/stavelaw16.IndexMarks", spec := "indexMarks", unfollowed := true, recurses := true, apart := false }
def IndexMarksSaid : Prop := indexMarksRow.holds Try.pinned (OpenSpec.ofChange indexMarksSpec)

/-- ITS FALSE NEIGHBOUR: 'it returns false'. Refute it at one input. -/
def indexMarksWrong : ChangeSpec := { name := "indexMarks", fn := fun _ => fun
  | [d1, d2, d3, d4] => { results := [.lit (.bool false)], args := [d1, d2, d3, d4] }
  | _ => none }
def IndexMarksWrongFalsely : Prop := indexMarksRow.holds Try.pinned (OpenSpec.ofChange indexMarksWrong)

/-- 'stavelaw16.IndexDrops': WHATEVER THE INPUT: true; the input reads as it did. -/
def indexDropsSpec : ChangeSpec := { name := "indexDrops", fn := fun _ => fun
  | [d1, d2, d3, d4] => { results := [.lit (.bool true)], args := [d1, d2, d3, d4] }
  | _ => none }
def indexDropsRow : OpenClaim := { program := "ytolincflccddhaa", sum := "538441d251082434e2e732fbe83cb0545d56ed094902f5868a0b9de11a34538a", func := "stave/stavelaw16.IndexDrops", spec := "indexDrops", unfollowed := true, recurses := true, apart := false }
def IndexDropsSaid : Prop := indexDropsRow.holds Try.pinned (OpenSpec.ofChange indexDropsSpec)

/-- ITS FALSE NEIGHBOUR: 'it returns false'. Refute it at one input. -/
def indexDropsWrong : ChangeSpec := { name := "indexDrops", fn := fun _ => fun
  | [d1, d2, d3, d4] => { results := [.lit (.bool false)], args := [d1, d2, d3, d4] }
  | _ => none }
def IndexDropsWrongFalsely : Prop := indexDropsRow.holds Try.pinned (OpenSpec.ofChange indexDropsWrong)

/- THE SECOND FORM. 'bulk': how many values and letters a reading holds, each counted each time it is reached (what is shared counts as often as it is met; a slice's spare places count too). A statement '..UptoSaid' is the law's where the arguments, and the package variables that the reading takes, are together of bulk at most 1048576: NARROWER than '..Said'. Prove '..Said' where nothing that the law and all that it calls make is longer than what came in: it says more and counts as full. Else prove '..UptoSaid'. A law counts once. -/
mutual
def uptoBulk {H : Type} : DataW H → Nat
  | .lit (.string bytes) => bytes.length + 1
  | .lit _ => 1
  | .nil => 1
  | .ptr d => uptoBulk d + 1
  | .slice elems spare => uptoBulkAll elems + uptoBulkAll spare + 1
  | .agg parts => uptoBulkAll parts + 1
  | .iface _ d => uptoBulk d + 1
  | .map entries => uptoBulkEntries entries + 1
  | .held _ => 1
def uptoBulkAll {H : Type} : List (DataW H) → Nat
  | [] => 0
  | d :: r => uptoBulk d + uptoBulkAll r
def uptoBulkEntries {H : Type} : List (Lit × DataW H) → Nat
  | [] => 0
  | x :: r => uptoBulkEntry x + uptoBulkEntries r
def uptoBulkEntry {H : Type} : Lit × DataW H → Nat
  | (.string bytes, d) => bytes.length + uptoBulk d + 1
  | (_, d) => uptoBulk d + 1
 end
def uptoSmall : (H : Type) → List (DataW H) → Bool := fun _ ds => decide (uptoBulkAll ds ≤ 1048576)
def OpenSpec.upto (s : _root_.Go.ChangeSpec) : _root_.Go.OpenSpec := { _root_.Go.OpenSpec.ofChange s with cond := some uptoSmall }

/-- 'stavelaw16.IndexRuns', WHERE WHAT IT READS IS OF BULK AT MOST 1048576: true; the input reads as it did. -/
def indexRunsUptoRow : OpenClaim := { program := "ytolincflccddhaa", sum := "538441d251082434e2e732fbe83cb0545d56ed094902f5868a0b9de11a34538a", func := "stave/stavelaw16.IndexRuns", spec := "indexRuns", unfollowed := true, recurses := true, apart := false, narrowed := true }
def IndexRunsUptoSaid : Prop := indexRunsUptoRow.holds Try.pinned (OpenSpec.upto indexRunsSpec)

/-- 'stavelaw16.IndexNear', WHERE WHAT IT READS IS OF BULK AT MOST 1048576: true; the input reads as it did. -/
def indexNearUptoRow : OpenClaim := { program := "ytolincflccddhaa", sum := "538441d251082434e2e732fbe83cb0545d56ed094902f5868a0b9de11a34538a", func := "stave/stavelaw16.IndexNear", spec := "indexNear", unfollowed := true, recurses := true, apart := false, narrowed := true }
def IndexNearUptoSaid : Prop := indexNearUptoRow.holds Try.pinned (OpenSpec.upto indexNearSpec)

/-- 'stavelaw16.IndexPlays', WHERE WHAT IT READS IS OF BULK AT MOST 1048576: true; the input reads as it did. -/
def indexPlaysUptoRow : OpenClaim := { program := "ytolincflccddhaa", sum := "538441d251082434e2e732fbe83cb0545d56ed094902f5868a0b9de11a34538a", func := "stave/stavelaw16.IndexPlays", spec := "indexPlays", unfollowed := true, recurses := true, apart := false, narrowed := true }
def IndexPlaysUptoSaid : Prop := indexPlaysUptoRow.holds Try.pinned (OpenSpec.upto indexPlaysSpec)

/-- 'stavelaw16.IndexMarks', WHERE WHAT IT READS IS OF BULK AT MOST 1048576: true; the input reads as it did. -/
def indexMarksUptoRow : OpenClaim := { program := "ytolincflccddhaa", sum := "538441d251082434e2e732fbe83cb0545d56ed094902f5868a0b9de11a34538a", func := "stave/stavelaw16.IndexMarks", spec := "indexMarks", unfollowed := true, recurses := true, apart := false, narrowed := true }
def IndexMarksUptoSaid : Prop := indexMarksUptoRow.holds Try.pinned (OpenSpec.upto indexMarksSpec)

/-- 'stavelaw16.IndexDrops', WHERE WHAT IT READS IS OF BULK AT MOST 1048576: true; the input reads as it did. -/
def indexDropsUptoRow : OpenClaim := { program := "ytolincflccddhaa", sum := "538441d251082434e2e732fbe83cb0545d56ed094902f5868a0b9de11a34538a", func := "stave/stavelaw16.IndexDrops", spec := "indexDrops", unfollowed := true, recurses := true, apart := false, narrowed := true }
def IndexDropsUptoSaid : Prop := indexDropsUptoRow.holds Try.pinned (OpenSpec.upto indexDropsSpec)

end Rows
end Go.Proofs.Ytolincflccddhaa
