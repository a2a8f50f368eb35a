/-
  No cell of these rows narrows 'for every input' (looked for: loops, veiled, ifaces, maps, wideKeys, modest, calm, conditions, laid).
  DERIVED. THE GIVEN ROWS OF THIS SEAT. 8 by the template 'for every input the law returns true; each argument reads behind the call as it read before'; 0 by the template 'total and deterministic' (their statements: YtloblgkjgcemoaaTotals.lean).
  GIVEN WITH THE SEED: the statements are not yours to turn. If you find one false, say at which input.
  Laid BY PROGRAM, IN A SANDBOX (cutbox-rows.mjs): the forced cells as the released guide's own fill.sh prints them over the translation 209d58eb38b3a82b… (all of the seat's roots in one cut). By AI agents, Wed Nov 11 2026. No macro, syntax, notation, axiom, sorry.
-/
import Derived.Test.YtloblgkjgcemoaaChecked
import GoSem.Claim
import GoSem.ClaimJoined
import GoSem.ClaimMapViews
import Derived.JoinedTies
import Derived.KernelRfl
namespace Go.Proofs.Ytloblgkjgcemoaa
/- THE CELL 'sum', in the pinned program and in every row, IS THE sha256 OF THE DUMP (.gsa) THAT YtloblgkjgcemoaaProg.lean LOADS. Nothing in Lean hashes anything: it is a label: what it is worth is what the hold of that sum in a sandbox is worth. -/
noncomputable def Try.pinned : Pinned := { name := "ytloblgkjgcemoaa", sum := "209d58eb38b3a82b2f639baf72fca1b4fd5156580425d7f17fa453fa40d61a79", checked := Try.checked }
namespace Rows
def none {H : Type} : Left H := { results := [], args := [] }

/-- 'wayfinderlaw38.FrontierCells': WHATEVER THE INPUT: true; the input reads as it did. -/
def frontierCellsSpec : ChangeSpec := { name := "frontierCells", fn := fun _ => fun
  | [d] => { results := [.lit (.bool true)], args := [d] }
  | _ => none }
def frontierCellsRow : OpenClaim := { program := "ytloblgkjgcemoaa", sum := "209d58eb38b3a82b2f639baf72fca1b4fd5156580425d7f17fa453fa40d61a79", func := "wayfinder/wayfinderlaw38.FrontierCells", spec := "frontierCells", unfollowed := true, recurses := true, plainKeys := false, apart := false }
def FrontierCellsSaid : Prop := frontierCellsRow.holds Try.pinned (OpenSpec.ofChange frontierCellsSpec)

/-- ITS FALSE NEIGHBOUR: 'it returns false'. Refute it at one input. -/
def frontierCellsWrong : ChangeSpec := { name := "frontierCells", fn := fun _ => fun
  | [d] => { results := [.lit (.bool false)], args := [d] }
  | _ => none }
def FrontierCellsWrongFalsely : Prop := frontierCellsRow.holds Try.pinned (OpenSpec.ofChange frontierCellsWrong)

/-- 'wayfinderlaw38.FrontierClusters': WHATEVER THE INPUT: true; the input reads as it did. -/
def frontierClustersSpec : ChangeSpec := { name := "frontierClusters", fn := fun _ => fun
  | [d] => { results := [.lit (.bool true)], args := [d] }
  | _ => none }
def frontierClustersRow : OpenClaim := { program := "ytloblgkjgcemoaa", sum := "209d58eb38b3a82b2f639baf72fca1b4fd5156580425d7f17fa453fa40d61a79", func := "wayfinder/wayfinderlaw38.FrontierClusters", spec := "frontierClusters", unfollowed := true, recurses := true, plainKeys := false, apart := false }
def FrontierClustersSaid : Prop := frontierClustersRow.holds Try.pinned (OpenSpec.ofChange frontierClustersSpec)

/-- ITS FALSE NEIGHBOUR: 'it returns false'. Refute it at one input. -/
def frontierClustersWrong : ChangeSpec := { name := "frontierClusters", fn := fun _ => fun
  | [d] => { results := [.lit (.bool false)], args := [d] }
  | _ => none }
def FrontierClustersWrongFalsely : Prop := frontierClustersRow.holds Try.pinned (OpenSpec.ofChange frontierClustersWrong)

/-- 'wayfinderlaw38.FrontierOnce': WHATEVER THE INPUT: true; the input reads as it did. -/
def frontierOnceSpec : ChangeSpec := { name := "frontierOnce", fn := fun _ => fun
  | [d] => { results := [.lit (.bool true)], args := [d] }
  | _ => none }
def frontierOnceRow : OpenClaim := { program := "ytloblgkjgcemoaa", sum := "209d58eb38b3a82b2f639baf72fca1b4fd5156580425d7f17fa453fa40d61a79", func := "wayfinder/wayfinderlaw38.FrontierOnce", spec := "frontierOnce", unfollowed := true, recurses := true, plainKeys := false, apart := false }
def FrontierOnceSaid : Prop := frontierOnceRow.holds Try.pinned (OpenSpec.ofChange frontierOnceSpec)

/-- ITS FALSE NEIGHBOUR: 'it returns false'. Refute it at one input. -/
def frontierOnceWrong : ChangeSpec := { name := "frontierOnce", fn := fun _ => fun
  | [d] => { results := [.lit (.bool false)], args := [d] }
  | _ => none }
def FrontierOnceWrongFalsely : Prop := frontierOnceRow.holds Try.pinned (OpenSpec.ofChange frontierOnceWrong)

/-- 'wayfinderlaw38.FrontierKnown': WHATEVER THE INPUT: true; the input reads as it did. -/
def frontierKnownSpec : ChangeSpec := { name := "frontierKnown", fn := fun _ => fun
  | [d1, d2] => { results := [.lit (.bool true)], args := [d1, d2] }
  | _ => none }
def frontierKnownRow : OpenClaim := { program := "ytloblgkjgcemoaa", sum := "209d58eb38b3a82b2f639baf72fca1b4fd5156580425d7f17fa453fa40d61a79", func := "wayfinder/wayfinderlaw38.FrontierKnown", spec := "frontierKnown", unfollowed := true, recurses := true, plainKeys := false, apart := false }
def FrontierKnownSaid : Prop := frontierKnownRow.holds Try.pinned (OpenSpec.ofChange frontierKnownSpec)

/-- ITS FALSE NEIGHBOUR: 'it returns false'. Refute it at one input. -/
def frontierKnownWrong : ChangeSpec := { name := "frontierKnown", fn := fun _ => fun
  | [d1, d2] => { results := [.lit (.bool false)], args := [d1, d2] }
  | _ => none }
def FrontierKnownWrongFalsely : Prop := frontierKnownRow.holds Try.pinned (OpenSpec.ofChange frontierKnownWrong)

/-- 'wayfinderlaw38.FrontierGoals': WHATEVER THE INPUT: true; the input reads as it did. -/
def frontierGoalsSpec : ChangeSpec := { name := "frontierGoals", fn := fun _ => fun
  | [d1, d2] => { results := [.lit (.bool true)], args := [d1, d2] }
  | _ => none }
def frontierGoalsRow : OpenClaim := { program := "ytloblgkjgcemoaa", sum := "209d58eb38b3a82b2f639baf72fca1b4fd5156580425d7f17fa453fa40d61a79", func := "wayfinder/wayfinderlaw38.FrontierGoals", spec := "frontierGoals", unfollowed := true, recurses := true, plainKeys := false, apart := false }
def FrontierGoalsSaid : Prop := frontierGoalsRow.holds Try.pinned (OpenSpec.ofChange frontierGoalsSpec)

/-- ITS FALSE NEIGHBOUR: 'it returns false'. Refute it at one input. -/
def frontierGoalsWrong : ChangeSpec := { name := "frontierGoals", fn := fun _ => fun
  | [d1, d2] => { results := [.lit (.bool false)], args := [d1, d2] }
  | _ => none }
def FrontierGoalsWrongFalsely : Prop := frontierGoalsRow.holds Try.pinned (OpenSpec.ofChange frontierGoalsWrong)

/-- 'wayfinderlaw38.FrontierCenters': WHATEVER THE INPUT: true; the input reads as it did. -/
def frontierCentersSpec : ChangeSpec := { name := "frontierCenters", fn := fun _ => fun
  | [d] => { results := [.lit (.bool true)], args := [d] }
  | _ => none }
def frontierCentersRow : OpenClaim := { program := "ytloblgkjgcemoaa", sum := "209d58eb38b3a82b2f639baf72fca1b4fd5156580425d7f17fa453fa40d61a79", func := "wayfinder/wayfinderlaw38.FrontierCenters", spec := "frontierCenters", unfollowed := true, recurses := true, plainKeys := false, apart := false }
def FrontierCentersSaid : Prop := frontierCentersRow.holds Try.pinned (OpenSpec.ofChange frontierCentersSpec)

/-- ITS FALSE NEIGHBOUR: 'it returns false'. Refute it at one input. -/
def frontierCentersWrong : ChangeSpec := { name := "frontierCenters", fn := fun _ => fun
  | [d] => { results := [.lit (.bool false)], args := [d] }
  | _ => none }
def FrontierCentersWrongFalsely : Prop := frontierCentersRow.holds Try.pinned (OpenSpec.ofChange frontierCentersWrong)

/-- 'wayfinderlaw38.FrontierDone': WHATEVER THE INPUT: true; the input reads as it did. -/
def frontierDoneSpec : ChangeSpec := { name := "frontierDone", fn := fun _ => fun
  | [d1, d2] => { results := [.lit (.bool true)], args := [d1, d2] }
  | _ => none }
def frontierDoneRow : OpenClaim := { program := "ytloblgkjgcemoaa", sum := "209d58eb38b3a82b2f639baf72fca1b4fd5156580425d7f17fa453fa40d61a79", func := "wayfinder/wayfinderlaw38.FrontierDone", spec := "frontierDone", unfollowed := true, recurses := true, plainKeys := false, apart := false }
def FrontierDoneSaid : Prop := frontierDoneRow.holds Try.pinned (OpenSpec.ofChange frontierDoneSpec)

/-- ITS FALSE NEIGHBOUR: 'it returns false'. Refute it at one input. -/
def frontierDoneWrong : ChangeSpec := { name := "frontierDone", fn := fun _ => fun
  | [d1, d2] => { results := [.lit (.bool false)], args := [d1, d2] }
  | _ => none }
def FrontierDoneWrongFalsely : Prop := frontierDoneRow.holds Try.pinned (OpenSpec.ofChange frontierDoneWrong)

/-- 'wayfinderlaw38.FrontierGains': WHATEVER THE INPUT: true; the input reads as it did. -/
def frontierGainsSpec : ChangeSpec := { name := "frontierGains", fn := fun _ => fun
  | [d1, d2, d3] => { results := [.lit (.bool true)], args := [d1, d2, d3] }
  | _ => none }
def frontierGainsRow : OpenClaim := { program := "ytloblgkjgcemoaa", sum := "209d58eb38b3a82b2f639baf72fca1b4fd5156580425d7f17fa453fa40d61a79", func := "wayfinder/wayfinderlaw38.FrontierGains", spec := "frontierGains", unfollowed := true, recurses := true, plainKeys := false, apart := false }
def FrontierGainsSaid : Prop := frontierGainsRow.holds Try.pinned (OpenSpec.ofChange frontierGainsSpec)

/-- ITS FALSE NEIGHBOUR: 'it returns false'. Refute it at one input. -/
def frontierGainsWrong : ChangeSpec := { name := "frontierGains", fn := fun _ => fun
  | [d1, d2, d3] => { results := [.lit (.bool false)], args := [d1, d2, d3] }
  | _ => none }
def FrontierGainsWrongFalsely : Prop := frontierGainsRow.holds Try.pinned (OpenSpec.ofChange frontierGainsWrong)

/- THE SECOND FORM. 'bulk': how many values and letters a reading holds, each counted each time it is reached (what is shared counts as often as it is met; a slice's spare places count too). A statement '..UptoSaid' is the law's where the arguments, and the package variables that the reading takes, are together of bulk at most 1048576: NARROWER than '..Said'. Prove '..Said' where nothing that the law and all that it calls make is longer than what came in: it says more and counts as full. Else prove '..UptoSaid'. A law counts once. -/
mutual
def uptoBulk {H : Type} : DataW H → Nat
  | .lit (.string bytes) => bytes.length + 1
  | .lit _ => 1
  | .nil => 1
  | .ptr d => uptoBulk d + 1
  | .slice elems spare => uptoBulkAll elems + uptoBulkAll spare + 1
  | .agg parts => uptoBulkAll parts + 1
  | .iface _ d => uptoBulk d + 1
  | .map entries => uptoBulkEntries entries + 1
  | .held _ => 1
def uptoBulkAll {H : Type} : List (DataW H) → Nat
  | [] => 0
  | d :: r => uptoBulk d + uptoBulkAll r
def uptoBulkEntries {H : Type} : List (Lit × DataW H) → Nat
  | [] => 0
  | x :: r => uptoBulkEntry x + uptoBulkEntries r
def uptoBulkEntry {H : Type} : Lit × DataW H → Nat
  | (.string bytes, d) => bytes.length + uptoBulk d + 1
  | (_, d) => uptoBulk d + 1
 end
def uptoSmall : (H : Type) → List (DataW H) → Bool := fun _ ds => decide (uptoBulkAll ds ≤ 1048576)
def OpenSpec.upto (s : _root_.Go.ChangeSpec) : _root_.Go.OpenSpec := { _root_.Go.OpenSpec.ofChange s with cond := some uptoSmall }

/-- 'wayfinderlaw38.FrontierCells', WHERE WHAT IT READS IS OF BULK AT MOST 1048576: true; the input reads as it did. -/
def frontierCellsUptoRow : OpenClaim := { program := "ytloblgkjgcemoaa", sum := "209d58eb38b3a82b2f639baf72fca1b4fd5156580425d7f17fa453fa40d61a79", func := "wayfinder/wayfinderlaw38.FrontierCells", spec := "frontierCells", unfollowed := true, recurses := true, plainKeys := false, apart := false, narrowed := true }
def FrontierCellsUptoSaid : Prop := frontierCellsUptoRow.holds Try.pinned (OpenSpec.upto frontierCellsSpec)

/-- 'wayfinderlaw38.FrontierClusters', WHERE WHAT IT READS IS OF BULK AT MOST 1048576: true; the input reads as it did. -/
def frontierClustersUptoRow : OpenClaim := { program := "ytloblgkjgcemoaa", sum := "209d58eb38b3a82b2f639baf72fca1b4fd5156580425d7f17fa453fa40d61a79", func := "wayfinder/wayfinderlaw38.FrontierClusters", spec := "frontierClusters", unfollowed := true, recurses := true, plainKeys := false, apart := false, narrowed := true }
def FrontierClustersUptoSaid : Prop := frontierClustersUptoRow.holds Try.pinned (OpenSpec.upto frontierClustersSpec)

/-- 'wayfinderlaw38.FrontierOnce', WHERE WHAT IT READS IS OF BULK AT MOST 1048576: true; the input reads as it did. -/
def frontierOnceUptoRow : OpenClaim := { program := "ytloblgkjgcemoaa", sum := "209d58eb38b3a82b2f639baf72fca1b4fd5156580425d7f17fa453fa40d61a79", func := "wayfinder/wayfinderlaw38.FrontierOnce", spec := "frontierOnce", unfollowed := true, recurses := true, plainKeys := false, apart := false, narrowed := true }
def FrontierOnceUptoSaid : Prop := frontierOnceUptoRow.holds Try.pinned (OpenSpec.upto frontierOnceSpec)

/-- 'wayfinderlaw38.FrontierKnown', WHERE WHAT IT READS IS OF BULK AT MOST 1048576: true; the input reads as it did. -/
def frontierKnownUptoRow : OpenClaim := { program := "ytloblgkjgcemoaa", sum := "209d58eb38b3a82b2f639baf72fca1b4fd5156580425d7f17fa453fa40d61a79", func := "wayfinder/wayfinderlaw38.FrontierKnown", spec := "frontierKnown", unfollowed := true, recurses := true, plainKeys := false, apart := false, narrowed := true }
def FrontierKnownUptoSaid : Prop := frontierKnownUptoRow.holds Try.pinned (OpenSpec.upto frontierKnownSpec)

/-- 'wayfinderlaw38.FrontierGoals', WHERE WHAT IT READS IS OF BULK AT MOST 1048576: true; the input reads as it did. -/
def frontierGoalsUptoRow : OpenClaim := { program := "ytloblgkjgcemoaa", sum := "209d58eb38b3a82b2f639baf72fca1b4fd5156580425d7f17fa453fa40d61a79", func := "wayfinder/wayfinderlaw38.FrontierGoals", spec := "frontierGoals", unfollowed := true, recurses := true, plainKeys := false, apart := false, narrowed := true }
def FrontierGoalsUptoSaid : Prop := frontierGoalsUptoRow.holds Try.pinned (OpenSpec.upto frontierGoalsSpec)

/-- 'wayfinderlaw38.FrontierCenters', WHERE WHAT IT READS IS OF BULK AT MOST 1048576: true; the input reads as it did. -/
def frontierCentersUptoRow : OpenClaim := { program := "ytloblgkjgcemoaa", sum := "209d58eb38b3a82b2f639baf72fca1b4fd5156580425d7f17fa453fa40d61a79", func := "wayfinder/wayfinderlaw38.FrontierCenters", spec := "frontierCenters", unfollowed := true, recurses := true, plainKeys := false, apart := false, narrowed := true }
def FrontierCentersUptoSaid : Prop := frontierCentersUptoRow.holds Try.pinned (OpenSpec.upto frontierCentersSpec)

/-- 'wayfinderlaw38.FrontierDone', WHERE WHAT IT READS IS OF BULK AT MOST 1048576: true; the input reads as it did. -/
def frontierDoneUptoRow : OpenClaim := { program := "ytloblgkjgcemoaa", sum := "209d58eb38b3a82b2f639baf72fca1b4fd5156580425d7f17fa453fa40d61a79", func := "wayfinder/wayfinderlaw38.FrontierDone", spec := "frontierDone", unfollowed := true, recurses := true, plainKeys := false, apart := false, narrowed := true }
def FrontierDoneUptoSaid : Prop := frontierDoneUptoRow.holds Try.pinned (OpenSpec.upto frontierDoneSpec)

/-- 'wayfinderlaw38.FrontierGains', WHERE WHAT IT READS IS OF BULK AT MOST 1048576: true; the input reads as it did. -/
def frontierGainsUptoRow : OpenClaim := { program := "ytloblgkjgcemoaa", sum := "209d58eb38b3a82b2f639baf72fca1b4fd5156580425d7f17fa453fa40d61a79", func := "wayfinder/wayfinderlaw38.FrontierGains", spec := "frontierGains", unfollowed := true, recurses := true, plainKeys := false, apart := false, narrowed := true }
def FrontierGainsUptoSaid : Prop := frontierGainsUptoRow.holds Try.pinned (OpenSpec.upto frontierGainsSpec)

end Rows
end Go.Proofs.Ytloblgkjgcemoaa
