/-
  No cell of these rows narrows 'for every input' (looked for: loops, veiled, ifaces, maps, wideKeys, modest, calm, conditions, laid).
  DERIVED. THE GIVEN ROWS OF THIS SEAT. 9 by the template 'for every input the law returns true; each argument reads behind the call as it read before'; 0 by the template 'total and deterministic' (their statements: YtpanbblbcnmadaaTotals.lean).
  GIVEN WITH THE SEED: the statements are not yours to turn. If you find one false, say at which input.
  Laid BY PROGRAM, IN A SANDBOX (cutbox-rows.mjs): the forced cells as the released guide's own fill.sh prints them over the translation b0eee42410667d61… (all of the seat's roots in one cut). By AI agents, Wed Nov 11 2026. No macro, syntax, notation, axiom, sorry.
-/
import Derived.Test.YtpanbblbcnmadaaChecked
import GoSem.Claim
import GoSem.ClaimJoined
import GoSem.ClaimMapViews
import Derived.JoinedTies
import Derived.KernelRfl
namespace Go.Proofs.Ytpanbblbcnmadaa
/- THE CELL 'sum', in the pinned program and in every row, IS THE sha256 OF THE DUMP (.gsa) THAT YtpanbblbcnmadaaProg.lean LOADS. Nothing in Lean hashes anything: it is a label: what it is worth is what the hold of that sum in a sandbox is worth. -/
noncomputable def Try.pinned : Pinned := { name := "ytpanbblbcnmadaa", sum := "b0eee42410667d6149cae5c0a8ebd4b2a40867d32a81f2aea86cd0a8f9724e97", checked := Try.checked }
namespace Rows
def none {H : Type} : Left H := { results := [], args := [] }

/-- 'wayfinderlaw35.DistanceSquares': WHATEVER THE INPUT: true; the input reads as it did. -/
def distanceSquaresSpec : ChangeSpec := { name := "distanceSquares", fn := fun _ => fun
  | [d] => { results := [.lit (.bool true)], args := [d] }
  | _ => none }
def distanceSquaresRow : OpenClaim := { program := "ytpanbblbcnmadaa", sum := "b0eee42410667d6149cae5c0a8ebd4b2a40867d32a81f2aea86cd0a8f9724e97", func := "wayfinder/wayfinderlaw35.DistanceSquares", spec := "distanceSquares", apart := false }
def DistanceSquaresSaid : Prop := distanceSquaresRow.holds Try.pinned (OpenSpec.ofChange distanceSquaresSpec)

/-- ITS FALSE NEIGHBOUR: 'it returns false'. Refute it at one input. -/
def distanceSquaresWrong : ChangeSpec := { name := "distanceSquares", fn := fun _ => fun
  | [d] => { results := [.lit (.bool false)], args := [d] }
  | _ => none }
def DistanceSquaresWrongFalsely : Prop := distanceSquaresRow.holds Try.pinned (OpenSpec.ofChange distanceSquaresWrong)

/-- 'wayfinderlaw35.DistanceNearest': WHATEVER THE INPUT: true; the input reads as it did. -/
def distanceNearestSpec : ChangeSpec := { name := "distanceNearest", fn := fun _ => fun
  | [d1, d2] => { results := [.lit (.bool true)], args := [d1, d2] }
  | _ => none }
def distanceNearestRow : OpenClaim := { program := "ytpanbblbcnmadaa", sum := "b0eee42410667d6149cae5c0a8ebd4b2a40867d32a81f2aea86cd0a8f9724e97", func := "wayfinder/wayfinderlaw35.DistanceNearest", spec := "distanceNearest", apart := false }
def DistanceNearestSaid : Prop := distanceNearestRow.holds Try.pinned (OpenSpec.ofChange distanceNearestSpec)

/-- ITS FALSE NEIGHBOUR: 'it returns false'. Refute it at one input. -/
def distanceNearestWrong : ChangeSpec := { name := "distanceNearest", fn := fun _ => fun
  | [d1, d2] => { results := [.lit (.bool false)], args := [d1, d2] }
  | _ => none }
def DistanceNearestWrongFalsely : Prop := distanceNearestRow.holds Try.pinned (OpenSpec.ofChange distanceNearestWrong)

/-- 'wayfinderlaw35.DistanceNeighbours': WHATEVER THE INPUT: true; the input reads as it did. -/
def distanceNeighboursSpec : ChangeSpec := { name := "distanceNeighbours", fn := fun _ => fun
  | [d1, d2, d3] => { results := [.lit (.bool true)], args := [d1, d2, d3] }
  | _ => none }
def distanceNeighboursRow : OpenClaim := { program := "ytpanbblbcnmadaa", sum := "b0eee42410667d6149cae5c0a8ebd4b2a40867d32a81f2aea86cd0a8f9724e97", func := "wayfinder/wayfinderlaw35.DistanceNeighbours", spec := "distanceNeighbours", apart := false }
def DistanceNeighboursSaid : Prop := distanceNeighboursRow.holds Try.pinned (OpenSpec.ofChange distanceNeighboursSpec)

/-- ITS FALSE NEIGHBOUR: 'it returns false'. Refute it at one input. -/
def distanceNeighboursWrong : ChangeSpec := { name := "distanceNeighbours", fn := fun _ => fun
  | [d1, d2, d3] => { results := [.lit (.bool false)], args := [d1, d2, d3] }
  | _ => none }
def DistanceNeighboursWrongFalsely : Prop := distanceNeighboursRow.holds Try.pinned (OpenSpec.ofChange distanceNeighboursWrong)

/-- 'wayfinderlaw35.DistanceCloses': WHATEVER THE INPUT: true; the input reads as it did. -/
def distanceClosesSpec : ChangeSpec := { name := "distanceCloses", fn := fun _ => fun
  | [d1, d2] => { results := [.lit (.bool true)], args := [d1, d2] }
  | _ => none }
def distanceClosesRow : OpenClaim := { program := "ytpanbblbcnmadaa", sum := "b0eee42410667d6149cae5c0a8ebd4b2a40867d32a81f2aea86cd0a8f9724e97", func := "wayfinder/wayfinderlaw35.DistanceCloses", spec := "distanceCloses", apart := false }
def DistanceClosesSaid : Prop := distanceClosesRow.holds Try.pinned (OpenSpec.ofChange distanceClosesSpec)

/-- ITS FALSE NEIGHBOUR: 'it returns false'. Refute it at one input. -/
def distanceClosesWrong : ChangeSpec := { name := "distanceCloses", fn := fun _ => fun
  | [d1, d2] => { results := [.lit (.bool false)], args := [d1, d2] }
  | _ => none }
def DistanceClosesWrongFalsely : Prop := distanceClosesRow.holds Try.pinned (OpenSpec.ofChange distanceClosesWrong)

/-- 'wayfinderlaw35.DistanceInflates': WHATEVER THE INPUT: true; the input reads as it did. -/
def distanceInflatesSpec : ChangeSpec := { name := "distanceInflates", fn := fun _ => fun
  | [d1, d2] => { results := [.lit (.bool true)], args := [d1, d2] }
  | _ => none }
def distanceInflatesRow : OpenClaim := { program := "ytpanbblbcnmadaa", sum := "b0eee42410667d6149cae5c0a8ebd4b2a40867d32a81f2aea86cd0a8f9724e97", func := "wayfinder/wayfinderlaw35.DistanceInflates", spec := "distanceInflates", apart := false }
def DistanceInflatesSaid : Prop := distanceInflatesRow.holds Try.pinned (OpenSpec.ofChange distanceInflatesSpec)

/-- ITS FALSE NEIGHBOUR: 'it returns false'. Refute it at one input. -/
def distanceInflatesWrong : ChangeSpec := { name := "distanceInflates", fn := fun _ => fun
  | [d1, d2] => { results := [.lit (.bool false)], args := [d1, d2] }
  | _ => none }
def DistanceInflatesWrongFalsely : Prop := distanceInflatesRow.holds Try.pinned (OpenSpec.ofChange distanceInflatesWrong)

/-- 'wayfinderlaw35.DistanceWithin': WHATEVER THE INPUT: true; the input reads as it did. -/
def distanceWithinSpec : ChangeSpec := { name := "distanceWithin", fn := fun _ => fun
  | [d1, d2, d3] => { results := [.lit (.bool true)], args := [d1, d2, d3] }
  | _ => none }
def distanceWithinRow : OpenClaim := { program := "ytpanbblbcnmadaa", sum := "b0eee42410667d6149cae5c0a8ebd4b2a40867d32a81f2aea86cd0a8f9724e97", func := "wayfinder/wayfinderlaw35.DistanceWithin", spec := "distanceWithin", apart := false }
def DistanceWithinSaid : Prop := distanceWithinRow.holds Try.pinned (OpenSpec.ofChange distanceWithinSpec)

/-- ITS FALSE NEIGHBOUR: 'it returns false'. Refute it at one input. -/
def distanceWithinWrong : ChangeSpec := { name := "distanceWithin", fn := fun _ => fun
  | [d1, d2, d3] => { results := [.lit (.bool false)], args := [d1, d2, d3] }
  | _ => none }
def DistanceWithinWrongFalsely : Prop := distanceWithinRow.holds Try.pinned (OpenSpec.ofChange distanceWithinWrong)

/-- 'wayfinderlaw35.DistanceClear': WHATEVER THE INPUT: true; the input reads as it did. -/
def distanceClearSpec : ChangeSpec := { name := "distanceClear", fn := fun _ => fun
  | [d1, d2, d3] => { results := [.lit (.bool true)], args := [d1, d2, d3] }
  | _ => none }
def distanceClearRow : OpenClaim := { program := "ytpanbblbcnmadaa", sum := "b0eee42410667d6149cae5c0a8ebd4b2a40867d32a81f2aea86cd0a8f9724e97", func := "wayfinder/wayfinderlaw35.DistanceClear", spec := "distanceClear", apart := false }
def DistanceClearSaid : Prop := distanceClearRow.holds Try.pinned (OpenSpec.ofChange distanceClearSpec)

/-- ITS FALSE NEIGHBOUR: 'it returns false'. Refute it at one input. -/
def distanceClearWrong : ChangeSpec := { name := "distanceClear", fn := fun _ => fun
  | [d1, d2, d3] => { results := [.lit (.bool false)], args := [d1, d2, d3] }
  | _ => none }
def DistanceClearWrongFalsely : Prop := distanceClearRow.holds Try.pinned (OpenSpec.ofChange distanceClearWrong)

/-- 'wayfinderlaw35.DistanceWidest': WHATEVER THE INPUT: true; the input reads as it did. -/
def distanceWidestSpec : ChangeSpec := { name := "distanceWidest", fn := fun _ => fun
  | [d1, d2, d3] => { results := [.lit (.bool true)], args := [d1, d2, d3] }
  | _ => none }
def distanceWidestRow : OpenClaim := { program := "ytpanbblbcnmadaa", sum := "b0eee42410667d6149cae5c0a8ebd4b2a40867d32a81f2aea86cd0a8f9724e97", func := "wayfinder/wayfinderlaw35.DistanceWidest", spec := "distanceWidest", unfollowed := true, recurses := true, apart := false }
def DistanceWidestSaid : Prop := distanceWidestRow.holds Try.pinned (OpenSpec.ofChange distanceWidestSpec)

/-- ITS FALSE NEIGHBOUR: 'it returns false'. Refute it at one input. -/
def distanceWidestWrong : ChangeSpec := { name := "distanceWidest", fn := fun _ => fun
  | [d1, d2, d3] => { results := [.lit (.bool false)], args := [d1, d2, d3] }
  | _ => none }
def DistanceWidestWrongFalsely : Prop := distanceWidestRow.holds Try.pinned (OpenSpec.ofChange distanceWidestWrong)

/-- 'wayfinderlaw35.DistanceThrough': WHATEVER THE INPUT: true; the input reads as it did. -/
def distanceThroughSpec : ChangeSpec := { name := "distanceThrough", fn := fun _ => fun
  | [d1, d2, d3] => { results := [.lit (.bool true)], args := [d1, d2, d3] }
  | _ => none }
def distanceThroughRow : OpenClaim := { program := "ytpanbblbcnmadaa", sum := "b0eee42410667d6149cae5c0a8ebd4b2a40867d32a81f2aea86cd0a8f9724e97", func := "wayfinder/wayfinderlaw35.DistanceThrough", spec := "distanceThrough", unfollowed := true, recurses := true, apart := false }
def DistanceThroughSaid : Prop := distanceThroughRow.holds Try.pinned (OpenSpec.ofChange distanceThroughSpec)

/-- ITS FALSE NEIGHBOUR: 'it returns false'. Refute it at one input. -/
def distanceThroughWrong : ChangeSpec := { name := "distanceThrough", fn := fun _ => fun
  | [d1, d2, d3] => { results := [.lit (.bool false)], args := [d1, d2, d3] }
  | _ => none }
def DistanceThroughWrongFalsely : Prop := distanceThroughRow.holds Try.pinned (OpenSpec.ofChange distanceThroughWrong)

/- THE SECOND FORM. 'bulk': how many values and letters a reading holds, each counted each time it is reached (what is shared counts as often as it is met; a slice's spare places count too). A statement '..UptoSaid' is the law's where the arguments, and the package variables that the reading takes, are together of bulk at most 1048576: NARROWER than '..Said'. Prove '..Said' where nothing that the law and all that it calls make is longer than what came in: it says more and counts as full. Else prove '..UptoSaid'. A law counts once. -/
mutual
def uptoBulk {H : Type} : DataW H → Nat
  | .lit (.string bytes) => bytes.length + 1
  | .lit _ => 1
  | .nil => 1
  | .ptr d => uptoBulk d + 1
  | .slice elems spare => uptoBulkAll elems + uptoBulkAll spare + 1
  | .agg parts => uptoBulkAll parts + 1
  | .iface _ d => uptoBulk d + 1
  | .map entries => uptoBulkEntries entries + 1
  | .held _ => 1
def uptoBulkAll {H : Type} : List (DataW H) → Nat
  | [] => 0
  | d :: r => uptoBulk d + uptoBulkAll r
def uptoBulkEntries {H : Type} : List (Lit × DataW H) → Nat
  | [] => 0
  | x :: r => uptoBulkEntry x + uptoBulkEntries r
def uptoBulkEntry {H : Type} : Lit × DataW H → Nat
  | (.string bytes, d) => bytes.length + uptoBulk d + 1
  | (_, d) => uptoBulk d + 1
 end
def uptoSmall : (H : Type) → List (DataW H) → Bool := fun _ ds => decide (uptoBulkAll ds ≤ 1048576)
def OpenSpec.upto (s : _root_.Go.ChangeSpec) : _root_.Go.OpenSpec := { _root_.Go.OpenSpec.ofChange s with cond := some uptoSmall }

/-- 'wayfinderlaw35.DistanceSquares', WHERE WHAT IT READS IS OF BULK AT MOST 1048576: true; the input reads as it did. -/
def distanceSquaresUptoRow : OpenClaim := { program := "ytpanbblbcnmadaa", sum := "b0eee42410667d6149cae5c0a8ebd4b2a40867d32a81f2aea86cd0a8f9724e97", func := "wayfinder/wayfinderlaw35.DistanceSquares", spec := "distanceSquares", apart := false, narrowed := true }
def DistanceSquaresUptoSaid : Prop := distanceSquaresUptoRow.holds Try.pinned (OpenSpec.upto distanceSquaresSpec)

/-- 'wayfinderlaw35.DistanceNearest', WHERE WHAT IT READS IS OF BULK AT MOST 1048576: true; the input reads as it did. -/
def distanceNearestUptoRow : OpenClaim := { program := "ytpanbblbcnmadaa", sum := "b0eee42410667d6149cae5c0a8ebd4b2a40867d32a81f2aea86cd0a8f9724e97", func := "wayfinder/wayfinderlaw35.DistanceNearest", spec := "distanceNearest", apart := false, narrowed := true }
def DistanceNearestUptoSaid : Prop := distanceNearestUptoRow.holds Try.pinned (OpenSpec.upto distanceNearestSpec)

/-- 'wayfinderlaw35.DistanceNeighbours', WHERE WHAT IT READS IS OF BULK AT MOST 1048576: true; the input reads as it did. -/
def distanceNeighboursUptoRow : OpenClaim := { program := "ytpanbblbcnmadaa", sum := "b0eee42410667d6149cae5c0a8ebd4b2a40867d32a81f2aea86cd0a8f9724e97", func := "wayfinder/wayfinderlaw35.DistanceNeighbours", spec := "distanceNeighbours", apart := false, narrowed := true }
def DistanceNeighboursUptoSaid : Prop := distanceNeighboursUptoRow.holds Try.pinned (OpenSpec.upto distanceNeighboursSpec)

/-- 'wayfinderlaw35.DistanceCloses', WHERE WHAT IT READS IS OF BULK AT MOST 1048576: true; the input reads as it did. -/
def distanceClosesUptoRow : OpenClaim := { program := "ytpanbblbcnmadaa", sum := "b0eee42410667d6149cae5c0a8ebd4b2a40867d32a81f2aea86cd0a8f9724e97", func := "wayfinder/wayfinderlaw35.DistanceCloses", spec := "distanceCloses", apart := false, narrowed := true }
def DistanceClosesUptoSaid : Prop := distanceClosesUptoRow.holds Try.pinned (OpenSpec.upto distanceClosesSpec)

/-- 'wayfinderlaw35.DistanceInflates', WHERE WHAT IT READS IS OF BULK AT MOST 1048576: true; the input reads as it did. -/
def distanceInflatesUptoRow : OpenClaim := { program := "ytpanbblbcnmadaa", sum := "b0eee42410667d6149cae5c0a8ebd4b2a40867d32a81f2aea86cd0a8f9724e97", func := "wayfinder/wayfinderlaw35.DistanceInflates", spec := "distanceInflates", apart := false, narrowed := true }
def DistanceInflatesUptoSaid : Prop := distanceInflatesUptoRow.holds Try.pinned (OpenSpec.upto distanceInflatesSpec)

/-- 'wayfinderlaw35.DistanceWithin', WHERE WHAT IT READS IS OF BULK AT MOST 1048576: true; the input reads as it did. -/
def distanceWithinUptoRow : OpenClaim := { program := "ytpanbblbcnmadaa", sum := "b0eee42410667d6149cae5c0a8ebd4b2a40867d32a81f2aea86cd0a8f9724e97", func := "wayfinder/wayfinderlaw35.DistanceWithin", spec := "distanceWithin", apart := false, narrowed := true }
def DistanceWithinUptoSaid : Prop := distanceWithinUptoRow.holds Try.pinned (OpenSpec.upto distanceWithinSpec)

/-- 'wayfinderlaw35.DistanceClear', WHERE WHAT IT READS IS OF BULK AT MOST 1048576: true; the input reads as it did. -/
def distanceClearUptoRow : OpenClaim := { program := "ytpanbblbcnmadaa", sum := "b0eee42410667d6149cae5c0a8ebd4b2a40867d32a81f2aea86cd0a8f9724e97", func := "wayfinder/wayfinderlaw35.DistanceClear", spec := "distanceClear", apart := false, narrowed := true }
def DistanceClearUptoSaid : Prop := distanceClearUptoRow.holds Try.pinned (OpenSpec.upto distanceClearSpec)

/-- 'wayfinderlaw35.DistanceWidest', WHERE WHAT IT READS IS OF BULK AT MOST 1048576: true; the input reads as it did. -/
def distanceWidestUptoRow : OpenClaim := { program := "ytpanbblbcnmadaa", sum := "b0eee42410667d6149cae5c0a8ebd4b2a40867d32a81f2aea86cd0a8f9724e97", func := "wayfinder/wayfinderlaw35.DistanceWidest", spec := "distanceWidest", unfollowed := true, recurses := true, apart := false, narrowed := true }
def DistanceWidestUptoSaid : Prop := distanceWidestUptoRow.holds Try.pinned (OpenSpec.upto distanceWidestSpec)

/-- 'wayfinderlaw35.DistanceThrough', WHERE WHAT IT READS IS OF BULK AT MOST 1048576: true; the input reads as it did. -/
def distanceThroughUptoRow : OpenClaim := { program := "ytpanbblbcnmadaa", sum := "b0eee42410667d6149cae5c0a8ebd4b2a40867d32a81f2aea86cd0a8f9724e97", func := "wayfinder/wayfinderlaw35.DistanceThrough", spec := "distanceThrough", unfollowed := true, recurses := true, apart := false, narrowed := true }
def DistanceThroughUptoSaid : Prop := distanceThroughUptoRow.holds Try.pinned (OpenSpec.upto distanceThroughSpec)

end Rows
end Go.Proofs.Ytpanbblbcnmadaa
