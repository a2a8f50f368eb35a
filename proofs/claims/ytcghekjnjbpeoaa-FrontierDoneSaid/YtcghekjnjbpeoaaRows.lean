/-
  No cell of these rows narrows 'for every input' (looked for: loops, veiled, ifaces, maps, wideKeys, modest, calm, conditions, laid).
  DERIVED. THE GIVEN ROWS OF THIS SEAT. 4 by the template 'for every input the law returns true; each argument reads behind the call as it read before'; 0 by the template 'total and deterministic' (their statements: YtcghekjnjbpeoaaTotals.lean).
  GIVEN WITH THE SEED: the statements are not yours to turn. If you find one false, say at which input.
  Laid BY PROGRAM, IN A SANDBOX (cutbox-rows.mjs): the forced cells as the released guide's own fill.sh prints them over the translation b008bfbd3dede8ac… (all of the seat's roots in one cut). By AI agents, Wed Nov 11 2026. No macro, syntax, notation, axiom, sorry.
-/
import Derived.Test.YtcghekjnjbpeoaaChecked
import GoSem.Claim
import GoSem.ClaimJoined
import GoSem.ClaimMapViews
import Derived.JoinedTies
import Derived.KernelRfl
namespace Go.Proofs.Ytcghekjnjbpeoaa
/- THE CELL 'sum', in the pinned program and in every row, IS THE sha256 OF THE DUMP (.gsa) THAT YtcghekjnjbpeoaaProg.lean LOADS. Nothing in Lean hashes anything: it is a label: what it is worth is what the hold of that sum in a sandbox is worth. -/
noncomputable def Try.pinned : Pinned := { name := "ytcghekjnjbpeoaa", sum := "b008bfbd3dede8ac97b5ae73ee58e063ca0b3c3c20a9368df35c2e8f66db8a1c", checked := Try.checked }
namespace Rows
def none {H : Type} : Left H := { results := [], args := [] }

/-- 'wayfinderlaw38.FrontierOnce': WHATEVER THE INPUT: true; the input reads as it did. -/
def frontierOnceSpec : ChangeSpec := { name := "frontierOnce", fn := fun _ => fun
  | [d] => { results := [.lit (.bool true)], args := [d] }
  | _ => none }
def frontierOnceRow : OpenClaim := { program := "ytcghekjnjbpeoaa", sum := "b008bfbd3dede8ac97b5ae73ee58e063ca0b3c3c20a9368df35c2e8f66db8a1c", func := "wayfinder/wayfinderlaw38.FrontierOnce", spec := "frontierOnce", unfollowed := true, recurses := true, plainKeys := false, apart := false }
def FrontierOnceSaid : Prop := frontierOnceRow.holds Try.pinned (OpenSpec.ofChange frontierOnceSpec)

/-- ITS FALSE NEIGHBOUR: 'it returns false'. Refute it at one input. -/
def frontierOnceWrong : ChangeSpec := { name := "frontierOnce", fn := fun _ => fun
  | [d] => { results := [.lit (.bool false)], args := [d] }
  | _ => none }
def FrontierOnceWrongFalsely : Prop := frontierOnceRow.holds Try.pinned (OpenSpec.ofChange frontierOnceWrong)

/-- 'wayfinderlaw38.FrontierClusters': WHATEVER THE INPUT: true; the input reads as it did. -/
def frontierClustersSpec : ChangeSpec := { name := "frontierClusters", fn := fun _ => fun
  | [d] => { results := [.lit (.bool true)], args := [d] }
  | _ => none }
def frontierClustersRow : OpenClaim := { program := "ytcghekjnjbpeoaa", sum := "b008bfbd3dede8ac97b5ae73ee58e063ca0b3c3c20a9368df35c2e8f66db8a1c", func := "wayfinder/wayfinderlaw38.FrontierClusters", spec := "frontierClusters", unfollowed := true, recurses := true, plainKeys := false, apart := false }
def FrontierClustersSaid : Prop := frontierClustersRow.holds Try.pinned (OpenSpec.ofChange frontierClustersSpec)

/-- ITS FALSE NEIGHBOUR: 'it returns false'. Refute it at one input. -/
def frontierClustersWrong : ChangeSpec := { name := "frontierClusters", fn := fun _ => fun
  | [d] => { results := [.lit (.bool false)], args := [d] }
  | _ => none }
def FrontierClustersWrongFalsely : Prop := frontierClustersRow.holds Try.pinned (OpenSpec.ofChange frontierClustersWrong)

/-- 'wayfinderlaw38.FrontierGoals': WHATEVER THE INPUT: true; the input reads as it did. -/
def frontierGoalsSpec : ChangeSpec := { name := "frontierGoals", fn := fun _ => fun
  | [d1, d2] => { results := [.lit (.bool true)], args := [d1, d2] }
  | _ => none }
def frontierGoalsRow : OpenClaim := { program := "ytcghekjnjbpeoaa", sum := "b008bfbd3dede8ac97b5ae73ee58e063ca0b3c3c20a9368df35c2e8f66db8a1c", func := "wayfinder/wayfinderlaw38.FrontierGoals", spec := "frontierGoals", unfollowed := true, recurses := true, plainKeys := false, apart := false }
def FrontierGoalsSaid : Prop := frontierGoalsRow.holds Try.pinned (OpenSpec.ofChange frontierGoalsSpec)

/-- ITS FALSE NEIGHBOUR: 'it returns false'. Refute it at one input. -/
def frontierGoalsWrong : ChangeSpec := { name := "frontierGoals", fn := fun _ => fun
  | [d1, d2] => { results := [.lit (.bool false)], args := [d1, d2] }
  | _ => none }
def FrontierGoalsWrongFalsely : Prop := frontierGoalsRow.holds Try.pinned (OpenSpec.ofChange frontierGoalsWrong)

/-- 'wayfinderlaw38.FrontierDone': WHATEVER THE INPUT: true; the input reads as it did. -/
def frontierDoneSpec : ChangeSpec := { name := "frontierDone", fn := fun _ => fun
  | [d1, d2] => { results := [.lit (.bool true)], args := [d1, d2] }
  | _ => none }
def frontierDoneRow : OpenClaim := { program := "ytcghekjnjbpeoaa", sum := "b008bfbd3dede8ac97b5ae73ee58e063ca0b3c3c20a9368df35c2e8f66db8a1c", func := "wayfinder/wayfinderlaw38.FrontierDone", spec := "frontierDone", unfollowed := true, recurses := true, plainKeys := false, apart := false }
def FrontierDoneSaid : Prop := frontierDoneRow.holds Try.pinned (OpenSpec.ofChange frontierDoneSpec)

/-- ITS FALSE NEIGHBOUR: 'it returns false'. Refute it at one input. -/
def frontierDoneWrong : ChangeSpec := { name := "frontierDone", fn := fun _ => fun
  | [d1, d2] => { results := [.lit (.bool false)], args := [d1, d2] }
  | _ => none }
def FrontierDoneWrongFalsely : Prop := frontierDoneRow.holds Try.pinned (OpenSpec.ofChange frontierDoneWrong)

/- THE SECOND FORM. 'bulk': how many values and letters a reading holds, each counted each time it is reached (what is shared counts as often as it is met; a slice's spare places count too). A statement '..UptoSaid' is the law's where the arguments, and the package variables that the reading takes, are together of bulk at most 1048576: NARROWER than '..Said'. Prove '..Said' where nothing that the law and all that it calls make is longer than what came in: it says more and counts as full. Else prove '..UptoSaid'. A law counts once. -/
mutual
def uptoBulk {H : Type} : DataW H → Nat
  | .lit (.string bytes) => bytes.length + 1
  | .lit _ => 1
  | .nil => 1
  | .ptr d => uptoBulk d + 1
  | .slice elems spare => uptoBulkAll elems + uptoBulkAll spare + 1
  | .agg parts => uptoBulkAll parts + 1
  | .iface _ d => uptoBulk d + 1
  | .map entries => uptoBulkEntries entries + 1
  | .held _ => 1
def uptoBulkAll {H : Type} : List (DataW H) → Nat
  | [] => 0
  | d :: r => uptoBulk d + uptoBulkAll r
def uptoBulkEntries {H : Type} : List (Lit × DataW H) → Nat
  | [] => 0
  | x :: r => uptoBulkEntry x + uptoBulkEntries r
def uptoBulkEntry {H : Type} : Lit × DataW H → Nat
  | (.string bytes, d) => bytes.length + uptoBulk d + 1
  | (_, d) => uptoBulk d + 1
 end
def uptoSmall : (H : Type) → List (DataW H) → Bool := fun _ ds => decide (uptoBulkAll ds ≤ 1048576)
def OpenSpec.upto (s : _root_.Go.ChangeSpec) : _root_.Go.OpenSpec := { _root_.Go.OpenSpec.ofChange s with cond := some uptoSmall }

/-- 'wayfinderlaw38.FrontierOnce', WHERE WHAT IT READS IS OF BULK AT MOST 1048576: true; the input reads as it did. -/
def frontierOnceUptoRow : OpenClaim := { program := "ytcghekjnjbpeoaa", sum := "b008bfbd3dede8ac97b5ae73ee58e063ca0b3c3c20a9368df35c2e8f66db8a1c", func := "wayfinder/wayfinderlaw38.FrontierOnce", spec := "frontierOnce", unfollowed := true, recurses := true, plainKeys := false, apart := false, narrowed := true }
def FrontierOnceUptoSaid : Prop := frontierOnceUptoRow.holds Try.pinned (OpenSpec.upto frontierOnceSpec)

/-- 'wayfinderlaw38.FrontierClusters', WHERE WHAT IT READS IS OF BULK AT MOST 1048576: true; the input reads as it did. -/
def frontierClustersUptoRow : OpenClaim := { program := "ytcghekjnjbpeoaa", sum := "b008bfbd3dede8ac97b5ae73ee58e063ca0b3c3c20a9368df35c2e8f66db8a1c", func := "wayfinder/wayfinderlaw38.FrontierClusters", spec := "frontierClusters", unfollowed := true, recurses := true, plainKeys := false, apart := false, narrowed := true }
def FrontierClustersUptoSaid : Prop := frontierClustersUptoRow.holds Try.pinned (OpenSpec.upto frontierClustersSpec)

/-- 'wayfinderlaw38.FrontierGoals', WHERE WHAT IT READS IS OF BULK AT MOST 1048576: true; the input reads as it did. -/
def frontierGoalsUptoRow : OpenClaim := { program := "ytcghekjnjbpeoaa", sum := "b008bfbd3dede8ac97b5ae73ee58e063ca0b3c3c20a9368df35c2e8f66db8a1c", func := "wayfinder/wayfinderlaw38.FrontierGoals", spec := "frontierGoals", unfollowed := true, recurses := true, plainKeys := false, apart := false, narrowed := true }
def FrontierGoalsUptoSaid : Prop := frontierGoalsUptoRow.holds Try.pinned (OpenSpec.upto frontierGoalsSpec)

/-- 'wayfinderlaw38.FrontierDone', WHERE WHAT IT READS IS OF BULK AT MOST 1048576: true; the input reads as it did. -/
def frontierDoneUptoRow : OpenClaim := { program := "ytcghekjnjbpeoaa", sum := "b008bfbd3dede8ac97b5ae73ee58e063ca0b3c3c20a9368df35c2e8f66db8a1c", func := "wayfinder/wayfinderlaw38.FrontierDone", spec := "frontierDone", unfollowed := true, recurses := true, plainKeys := false, apart := false, narrowed := true }
def FrontierDoneUptoSaid : Prop := frontierDoneUptoRow.holds Try.pinned (OpenSpec.upto frontierDoneSpec)

end Rows
end Go.Proofs.Ytcghekjnjbpeoaa
