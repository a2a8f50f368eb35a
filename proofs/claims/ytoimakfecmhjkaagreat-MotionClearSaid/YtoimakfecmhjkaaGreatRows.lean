/-
  No cell of these rows narrows 'for every input' (looked for: loops, veiled, ifaces, maps, wideKeys, modest, calm, conditions, laid).
  DERIVED. THE GIVEN ROWS OF THIS SEAT. 9 by the template 'for every input the law returns true; each argument reads behind the call as it read before'; 0 by the template 'total and deterministic' (their statements: YtoimakfecmhjkaaGreatTotals.lean).
  GIVEN WITH THE SEED: the statements are not yours to turn. If you find one false, say at which input.
  Laid BY PROGRAM, IN A SANDBOX (cutbox-rows.mjs): the forced cells as the released guide's own fill.sh prints them over the translation 5fd52658bfa08e14… (all of the seat's roots in one cut). By AI agents, Wed Nov 11 2026. No macro, syntax, notation, axiom, sorry.
-/
import Derived.Test.YtoimakfecmhjkaaGreatChecked
import GoSem.Claim
import GoSem.ClaimJoined
import GoSem.ClaimMapViews
import Derived.JoinedTies
import Derived.KernelRfl
namespace Go.Proofs.YtoimakfecmhjkaaGreat
/- THE CELL 'sum', in the pinned program and in every row, IS THE sha256 OF THE DUMP (.gsa) THAT YtoimakfecmhjkaaGreatProg.lean LOADS. Nothing in Lean hashes anything: it is a label: what it is worth is what the hold of that sum in a sandbox is worth. -/
noncomputable def Tryz.pinned : Pinned := { name := "ytoimakfecmhjkaagreat", sum := "5fd52658bfa08e146cbdc5afa2e87b7c28f27f78ce43ca25a3de66e4e64c9ffe", checked := Tryz.checked }
namespace Rows
def none {H : Type} : Left H := { results := [], args := [] }

/-- 'wayfinderlaw40.MotionSweeps': WHATEVER THE INPUT: true; the input reads as it did. -/
def motionSweepsSpec : ChangeSpec := { name := "motionSweeps", fn := fun _ => fun
  | [d1, d2, d3] => { results := [.lit (.bool true)], args := [d1, d2, d3] }
  | _ => none }
def motionSweepsRow : OpenClaim := { program := "ytoimakfecmhjkaagreat", sum := "5fd52658bfa08e146cbdc5afa2e87b7c28f27f78ce43ca25a3de66e4e64c9ffe", func := "wayfinder/wayfinderlaw40.MotionSweeps", spec := "motionSweeps", unfollowed := true, recurses := true, apart := false }
def MotionSweepsSaid : Prop := motionSweepsRow.holds Tryz.pinned (OpenSpec.ofChange motionSweepsSpec)

/-- ITS FALSE NEIGHBOUR: 'it returns false'. Refute it at one input. -/
def motionSweepsWrong : ChangeSpec := { name := "motionSweeps", fn := fun _ => fun
  | [d1, d2, d3] => { results := [.lit (.bool false)], args := [d1, d2, d3] }
  | _ => none }
def MotionSweepsWrongFalsely : Prop := motionSweepsRow.holds Tryz.pinned (OpenSpec.ofChange motionSweepsWrong)

/-- 'wayfinderlaw40.MotionTouched': WHATEVER THE INPUT: true; the input reads as it did. -/
def motionTouchedSpec : ChangeSpec := { name := "motionTouched", fn := fun _ => fun
  | [d] => { results := [.lit (.bool true)], args := [d] }
  | _ => none }
def motionTouchedRow : OpenClaim := { program := "ytoimakfecmhjkaagreat", sum := "5fd52658bfa08e146cbdc5afa2e87b7c28f27f78ce43ca25a3de66e4e64c9ffe", func := "wayfinder/wayfinderlaw40.MotionTouched", spec := "motionTouched", unfollowed := true, recurses := true, apart := false }
def MotionTouchedSaid : Prop := motionTouchedRow.holds Tryz.pinned (OpenSpec.ofChange motionTouchedSpec)

/-- ITS FALSE NEIGHBOUR: 'it returns false'. Refute it at one input. -/
def motionTouchedWrong : ChangeSpec := { name := "motionTouched", fn := fun _ => fun
  | [d] => { results := [.lit (.bool false)], args := [d] }
  | _ => none }
def MotionTouchedWrongFalsely : Prop := motionTouchedRow.holds Tryz.pinned (OpenSpec.ofChange motionTouchedWrong)

/-- 'wayfinderlaw40.MotionSafe': WHATEVER THE INPUT: true; the input reads as it did. -/
def motionSafeSpec : ChangeSpec := { name := "motionSafe", fn := fun _ => fun
  | [d1, d2, d3] => { results := [.lit (.bool true)], args := [d1, d2, d3] }
  | _ => none }
def motionSafeRow : OpenClaim := { program := "ytoimakfecmhjkaagreat", sum := "5fd52658bfa08e146cbdc5afa2e87b7c28f27f78ce43ca25a3de66e4e64c9ffe", func := "wayfinder/wayfinderlaw40.MotionSafe", spec := "motionSafe", unfollowed := true, recurses := true, apart := false }
def MotionSafeSaid : Prop := motionSafeRow.holds Tryz.pinned (OpenSpec.ofChange motionSafeSpec)

/-- ITS FALSE NEIGHBOUR: 'it returns false'. Refute it at one input. -/
def motionSafeWrong : ChangeSpec := { name := "motionSafe", fn := fun _ => fun
  | [d1, d2, d3] => { results := [.lit (.bool false)], args := [d1, d2, d3] }
  | _ => none }
def MotionSafeWrongFalsely : Prop := motionSafeRow.holds Tryz.pinned (OpenSpec.ofChange motionSafeWrong)

/-- 'wayfinderlaw40.MotionCovers': WHATEVER THE INPUT: true; the input reads as it did. -/
def motionCoversSpec : ChangeSpec := { name := "motionCovers", fn := fun _ => fun
  | [d1, d2, d3] => { results := [.lit (.bool true)], args := [d1, d2, d3] }
  | _ => none }
def motionCoversRow : OpenClaim := { program := "ytoimakfecmhjkaagreat", sum := "5fd52658bfa08e146cbdc5afa2e87b7c28f27f78ce43ca25a3de66e4e64c9ffe", func := "wayfinder/wayfinderlaw40.MotionCovers", spec := "motionCovers", unfollowed := true, recurses := true, apart := false }
def MotionCoversSaid : Prop := motionCoversRow.holds Tryz.pinned (OpenSpec.ofChange motionCoversSpec)

/-- ITS FALSE NEIGHBOUR: 'it returns false'. Refute it at one input. -/
def motionCoversWrong : ChangeSpec := { name := "motionCovers", fn := fun _ => fun
  | [d1, d2, d3] => { results := [.lit (.bool false)], args := [d1, d2, d3] }
  | _ => none }
def MotionCoversWrongFalsely : Prop := motionCoversRow.holds Tryz.pinned (OpenSpec.ofChange motionCoversWrong)

/-- 'wayfinderlaw40.MotionClear': WHATEVER THE INPUT: true; the input reads as it did. -/
def motionClearSpec : ChangeSpec := { name := "motionClear", fn := fun _ => fun
  | [d1, d2, d3] => { results := [.lit (.bool true)], args := [d1, d2, d3] }
  | _ => none }
def motionClearRow : OpenClaim := { program := "ytoimakfecmhjkaagreat", sum := "5fd52658bfa08e146cbdc5afa2e87b7c28f27f78ce43ca25a3de66e4e64c9ffe", func := "wayfinder/wayfinderlaw40.MotionClear", spec := "motionClear", unfollowed := true, recurses := true, apart := false }
def MotionClearSaid : Prop := motionClearRow.holds Tryz.pinned (OpenSpec.ofChange motionClearSpec)

/-- ITS FALSE NEIGHBOUR: 'it returns false'. Refute it at one input. -/
def motionClearWrong : ChangeSpec := { name := "motionClear", fn := fun _ => fun
  | [d1, d2, d3] => { results := [.lit (.bool false)], args := [d1, d2, d3] }
  | _ => none }
def MotionClearWrongFalsely : Prop := motionClearRow.holds Tryz.pinned (OpenSpec.ofChange motionClearWrong)

/-- 'wayfinderlaw40.MotionToward': WHATEVER THE INPUT: true; the input reads as it did. -/
def motionTowardSpec : ChangeSpec := { name := "motionToward", fn := fun _ => fun
  | [d1, d2] => { results := [.lit (.bool true)], args := [d1, d2] }
  | _ => none }
def motionTowardRow : OpenClaim := { program := "ytoimakfecmhjkaagreat", sum := "5fd52658bfa08e146cbdc5afa2e87b7c28f27f78ce43ca25a3de66e4e64c9ffe", func := "wayfinder/wayfinderlaw40.MotionToward", spec := "motionToward", unfollowed := true, recurses := true, apart := false }
def MotionTowardSaid : Prop := motionTowardRow.holds Tryz.pinned (OpenSpec.ofChange motionTowardSpec)

/-- ITS FALSE NEIGHBOUR: 'it returns false'. Refute it at one input. -/
def motionTowardWrong : ChangeSpec := { name := "motionToward", fn := fun _ => fun
  | [d1, d2] => { results := [.lit (.bool false)], args := [d1, d2] }
  | _ => none }
def MotionTowardWrongFalsely : Prop := motionTowardRow.holds Tryz.pinned (OpenSpec.ofChange motionTowardWrong)

/-- 'wayfinderlaw40.MotionAims': WHATEVER THE INPUT: true; the input reads as it did. -/
def motionAimsSpec : ChangeSpec := { name := "motionAims", fn := fun _ => fun
  | [d1, d2] => { results := [.lit (.bool true)], args := [d1, d2] }
  | _ => none }
def motionAimsRow : OpenClaim := { program := "ytoimakfecmhjkaagreat", sum := "5fd52658bfa08e146cbdc5afa2e87b7c28f27f78ce43ca25a3de66e4e64c9ffe", func := "wayfinder/wayfinderlaw40.MotionAims", spec := "motionAims", unfollowed := true, recurses := true, apart := false }
def MotionAimsSaid : Prop := motionAimsRow.holds Tryz.pinned (OpenSpec.ofChange motionAimsSpec)

/-- ITS FALSE NEIGHBOUR: 'it returns false'. Refute it at one input. -/
def motionAimsWrong : ChangeSpec := { name := "motionAims", fn := fun _ => fun
  | [d1, d2] => { results := [.lit (.bool false)], args := [d1, d2] }
  | _ => none }
def MotionAimsWrongFalsely : Prop := motionAimsRow.holds Tryz.pinned (OpenSpec.ofChange motionAimsWrong)

/-- 'wayfinderlaw40.MotionEstimates': WHATEVER THE INPUT: true; the input reads as it did. -/
def motionEstimatesSpec : ChangeSpec := { name := "motionEstimates", fn := fun _ => fun
  | [d] => { results := [.lit (.bool true)], args := [d] }
  | _ => none }
def motionEstimatesRow : OpenClaim := { program := "ytoimakfecmhjkaagreat", sum := "5fd52658bfa08e146cbdc5afa2e87b7c28f27f78ce43ca25a3de66e4e64c9ffe", func := "wayfinder/wayfinderlaw40.MotionEstimates", spec := "motionEstimates", unfollowed := true, recurses := true, apart := false }
def MotionEstimatesSaid : Prop := motionEstimatesRow.holds Tryz.pinned (OpenSpec.ofChange motionEstimatesSpec)

/-- ITS FALSE NEIGHBOUR: 'it returns false'. Refute it at one input. -/
def motionEstimatesWrong : ChangeSpec := { name := "motionEstimates", fn := fun _ => fun
  | [d] => { results := [.lit (.bool false)], args := [d] }
  | _ => none }
def MotionEstimatesWrongFalsely : Prop := motionEstimatesRow.holds Tryz.pinned (OpenSpec.ofChange motionEstimatesWrong)

/-- 'wayfinderlaw40.MotionChooses': WHATEVER THE INPUT: true; the input reads as it did. -/
def motionChoosesSpec : ChangeSpec := { name := "motionChooses", fn := fun _ => fun
  | [d1, d2, d3] => { results := [.lit (.bool true)], args := [d1, d2, d3] }
  | _ => none }
def motionChoosesRow : OpenClaim := { program := "ytoimakfecmhjkaagreat", sum := "5fd52658bfa08e146cbdc5afa2e87b7c28f27f78ce43ca25a3de66e4e64c9ffe", func := "wayfinder/wayfinderlaw40.MotionChooses", spec := "motionChooses", unfollowed := true, recurses := true, apart := false }
def MotionChoosesSaid : Prop := motionChoosesRow.holds Tryz.pinned (OpenSpec.ofChange motionChoosesSpec)

/-- ITS FALSE NEIGHBOUR: 'it returns false'. Refute it at one input. -/
def motionChoosesWrong : ChangeSpec := { name := "motionChooses", fn := fun _ => fun
  | [d1, d2, d3] => { results := [.lit (.bool false)], args := [d1, d2, d3] }
  | _ => none }
def MotionChoosesWrongFalsely : Prop := motionChoosesRow.holds Tryz.pinned (OpenSpec.ofChange motionChoosesWrong)

/- THE SECOND FORM. 'bulk': how many values and letters a reading holds, each counted each time it is reached (what is shared counts as often as it is met; a slice's spare places count too). A statement '..UptoSaid' is the law's where the arguments, and the package variables that the reading takes, are together of bulk at most 1048576: NARROWER than '..Said'. Prove '..Said' where nothing that the law and all that it calls make is longer than what came in: it says more and counts as full. Else prove '..UptoSaid'. A law counts once. -/
mutual
def uptoBulk {H : Type} : DataW H → Nat
  | .lit (.string bytes) => bytes.length + 1
  | .lit _ => 1
  | .nil => 1
  | .ptr d => uptoBulk d + 1
  | .slice elems spare => uptoBulkAll elems + uptoBulkAll spare + 1
  | .agg parts => uptoBulkAll parts + 1
  | .iface _ d => uptoBulk d + 1
  | .map entries => uptoBulkEntries entries + 1
  | .held _ => 1
def uptoBulkAll {H : Type} : List (DataW H) → Nat
  | [] => 0
  | d :: r => uptoBulk d + uptoBulkAll r
def uptoBulkEntries {H : Type} : List (Lit × DataW H) → Nat
  | [] => 0
  | x :: r => uptoBulkEntry x + uptoBulkEntries r
def uptoBulkEntry {H : Type} : Lit × DataW H → Nat
  | (.string bytes, d) => bytes.length + uptoBulk d + 1
  | (_, d) => uptoBulk d + 1
 end
def uptoSmall : (H : Type) → List (DataW H) → Bool := fun _ ds => decide (uptoBulkAll ds ≤ 1048576)
def OpenSpec.upto (s : _root_.Go.ChangeSpec) : _root_.Go.OpenSpec := { _root_.Go.OpenSpec.ofChange s with cond := some uptoSmall }

/-- 'wayfinderlaw40.MotionSweeps', WHERE WHAT IT READS IS OF BULK AT MOST 1048576: true; the input reads as it did. -/
def motionSweepsUptoRow : OpenClaim := { program := "ytoimakfecmhjkaagreat", sum := "5fd52658bfa08e146cbdc5afa2e87b7c28f27f78ce43ca25a3de66e4e64c9ffe", func := "wayfinder/wayfinderlaw40.MotionSweeps", spec := "motionSweeps", unfollowed := true, recurses := true, apart := false, narrowed := true }
def MotionSweepsUptoSaid : Prop := motionSweepsUptoRow.holds Tryz.pinned (OpenSpec.upto motionSweepsSpec)

/-- 'wayfinderlaw40.MotionTouched', WHERE WHAT IT READS IS OF BULK AT MOST 1048576: true; the input reads as it did. -/
def motionTouchedUptoRow : OpenClaim := { program := "ytoimakfecmhjkaagreat", sum := "5fd52658bfa08e146cbdc5afa2e87b7c28f27f78ce43ca25a3de66e4e64c9ffe", func := "wayfinder/wayfinderlaw40.MotionTouched", spec := "motionTouched", unfollowed := true, recurses := true, apart := false, narrowed := true }
def MotionTouchedUptoSaid : Prop := motionTouchedUptoRow.holds Tryz.pinned (OpenSpec.upto motionTouchedSpec)

/-- 'wayfinderlaw40.MotionSafe', WHERE WHAT IT READS IS OF BULK AT MOST 1048576: true; the input reads as it did. -/
def motionSafeUptoRow : OpenClaim := { program := "ytoimakfecmhjkaagreat", sum := "5fd52658bfa08e146cbdc5afa2e87b7c28f27f78ce43ca25a3de66e4e64c9ffe", func := "wayfinder/wayfinderlaw40.MotionSafe", spec := "motionSafe", unfollowed := true, recurses := true, apart := false, narrowed := true }
def MotionSafeUptoSaid : Prop := motionSafeUptoRow.holds Tryz.pinned (OpenSpec.upto motionSafeSpec)

/-- 'wayfinderlaw40.MotionCovers', WHERE WHAT IT READS IS OF BULK AT MOST 1048576: true; the input reads as it did. -/
def motionCoversUptoRow : OpenClaim := { program := "ytoimakfecmhjkaagreat", sum := "5fd52658bfa08e146cbdc5afa2e87b7c28f27f78ce43ca25a3de66e4e64c9ffe", func := "wayfinder/wayfinderlaw40.MotionCovers", spec := "motionCovers", unfollowed := true, recurses := true, apart := false, narrowed := true }
def MotionCoversUptoSaid : Prop := motionCoversUptoRow.holds Tryz.pinned (OpenSpec.upto motionCoversSpec)

/-- 'wayfinderlaw40.MotionClear', WHERE WHAT IT READS IS OF BULK AT MOST 1048576: true; the input reads as it did. -/
def motionClearUptoRow : OpenClaim := { program := "ytoimakfecmhjkaagreat", sum := "5fd52658bfa08e146cbdc5afa2e87b7c28f27f78ce43ca25a3de66e4e64c9ffe", func := "wayfinder/wayfinderlaw40.MotionClear", spec := "motionClear", unfollowed := true, recurses := true, apart := false, narrowed := true }
def MotionClearUptoSaid : Prop := motionClearUptoRow.holds Tryz.pinned (OpenSpec.upto motionClearSpec)

/-- 'wayfinderlaw40.MotionToward', WHERE WHAT IT READS IS OF BULK AT MOST 1048576: true; the input reads as it did. -/
def motionTowardUptoRow : OpenClaim := { program := "ytoimakfecmhjkaagreat", sum := "5fd52658bfa08e146cbdc5afa2e87b7c28f27f78ce43ca25a3de66e4e64c9ffe", func := "wayfinder/wayfinderlaw40.MotionToward", spec := "motionToward", unfollowed := true, recurses := true, apart := false, narrowed := true }
def MotionTowardUptoSaid : Prop := motionTowardUptoRow.holds Tryz.pinned (OpenSpec.upto motionTowardSpec)

/-- 'wayfinderlaw40.MotionAims', WHERE WHAT IT READS IS OF BULK AT MOST 1048576: true; the input reads as it did. -/
def motionAimsUptoRow : OpenClaim := { program := "ytoimakfecmhjkaagreat", sum := "5fd52658bfa08e146cbdc5afa2e87b7c28f27f78ce43ca25a3de66e4e64c9ffe", func := "wayfinder/wayfinderlaw40.MotionAims", spec := "motionAims", unfollowed := true, recurses := true, apart := false, narrowed := true }
def MotionAimsUptoSaid : Prop := motionAimsUptoRow.holds Tryz.pinned (OpenSpec.upto motionAimsSpec)

/-- 'wayfinderlaw40.MotionEstimates', WHERE WHAT IT READS IS OF BULK AT MOST 1048576: true; the input reads as it did. -/
def motionEstimatesUptoRow : OpenClaim := { program := "ytoimakfecmhjkaagreat", sum := "5fd52658bfa08e146cbdc5afa2e87b7c28f27f78ce43ca25a3de66e4e64c9ffe", func := "wayfinder/wayfinderlaw40.MotionEstimates", spec := "motionEstimates", unfollowed := true, recurses := true, apart := false, narrowed := true }
def MotionEstimatesUptoSaid : Prop := motionEstimatesUptoRow.holds Tryz.pinned (OpenSpec.upto motionEstimatesSpec)

/-- 'wayfinderlaw40.MotionChooses', WHERE WHAT IT READS IS OF BULK AT MOST 1048576: true; the input reads as it did. -/
def motionChoosesUptoRow : OpenClaim := { program := "ytoimakfecmhjkaagreat", sum := "5fd52658bfa08e146cbdc5afa2e87b7c28f27f78ce43ca25a3de66e4e64c9ffe", func := "wayfinder/wayfinderlaw40.MotionChooses", spec := "motionChooses", unfollowed := true, recurses := true, apart := false, narrowed := true }
def MotionChoosesUptoSaid : Prop := motionChoosesUptoRow.holds Tryz.pinned (OpenSpec.upto motionChoosesSpec)

end Rows
end Go.Proofs.YtoimakfecmhjkaaGreat
