/-
  No cell of these rows narrows 'for every input' (looked for: loops, veiled, ifaces, maps, wideKeys, modest, calm, conditions, laid).
  DERIVED. THE GIVEN ROWS OF THIS SEAT. 12 by the template 'for every input the law returns true; each argument reads behind the call as it read before'; 0 by the template 'total and deterministic' (their statements: YteieacinbfimlaaGreatTotals.lean).
  GIVEN WITH THE SEED: the statements are not yours to turn. If you find one false, say at which input.
  Laid BY PROGRAM, IN A SANDBOX (cutbox-rows.mjs): the forced cells as the released guide's own fill.sh prints them over the translation 7ce6ee441cb0245b… (all of the seat's roots in one cut). By AI agents, Wed Nov 11 2026. No macro, syntax, notation, axiom, sorry.
-/
import Derived.Test.YteieacinbfimlaaGreatChecked
import GoSem.Claim
import GoSem.ClaimJoined
import GoSem.ClaimMapViews
import Derived.JoinedTies
import Derived.KernelRfl
namespace Go.Proofs.YteieacinbfimlaaGreat
/- THE CELL 'sum', in the pinned program and in every row, IS THE sha256 OF THE DUMP (.gsa) THAT YteieacinbfimlaaGreatProg.lean LOADS. Nothing in Lean hashes anything: it is a label: what it is worth is what the hold of that sum in a sandbox is worth. -/
noncomputable def Tryz.pinned : Pinned := { name := "yteieacinbfimlaagreat", sum := "7ce6ee441cb0245bce3a9376b62932865e99a855c0b14a58aedc4852aa30e402", checked := Tryz.checked }
namespace Rows
def none {H : Type} : Left H := { results := [], args := [] }

/-- 'wayfinderlaw22.KnownMatchesReference': WHATEVER THE INPUT: true; the input reads as it did. -/
def knownMatchesReferenceSpec : ChangeSpec := { name := "knownMatchesReference", fn := fun _ => fun
  | [d1, d2, d3] => { results := [.lit (.bool true)], args := [d1, d2, d3] }
  | _ => none }
def knownMatchesReferenceRow : OpenClaim := { program := "yteieacinbfimlaagreat", sum := "7ce6ee441cb0245bce3a9376b62932865e99a855c0b14a58aedc4852aa30e402", func := "wayfinder/wayfinderlaw22.KnownMatchesReference", spec := "knownMatchesReference", unfollowed := true, recurses := true, apart := false }
def KnownMatchesReferenceSaid : Prop := knownMatchesReferenceRow.holds Tryz.pinned (OpenSpec.ofChange knownMatchesReferenceSpec)

/-- ITS FALSE NEIGHBOUR: 'it returns false'. Refute it at one input. -/
def knownMatchesReferenceWrong : ChangeSpec := { name := "knownMatchesReference", fn := fun _ => fun
  | [d1, d2, d3] => { results := [.lit (.bool false)], args := [d1, d2, d3] }
  | _ => none }
def KnownMatchesReferenceWrongFalsely : Prop := knownMatchesReferenceRow.holds Tryz.pinned (OpenSpec.ofChange knownMatchesReferenceWrong)

/-- 'wayfinderlaw22.KnownSuspects': WHATEVER THE INPUT: true; the input reads as it did. -/
def knownSuspectsSpec : ChangeSpec := { name := "knownSuspects", fn := fun _ => fun
  | [d1, d2, d3] => { results := [.lit (.bool true)], args := [d1, d2, d3] }
  | _ => none }
def knownSuspectsRow : OpenClaim := { program := "yteieacinbfimlaagreat", sum := "7ce6ee441cb0245bce3a9376b62932865e99a855c0b14a58aedc4852aa30e402", func := "wayfinder/wayfinderlaw22.KnownSuspects", spec := "knownSuspects", unfollowed := true, recurses := true, apart := false }
def KnownSuspectsSaid : Prop := knownSuspectsRow.holds Tryz.pinned (OpenSpec.ofChange knownSuspectsSpec)

/-- ITS FALSE NEIGHBOUR: 'it returns false'. Refute it at one input. -/
def knownSuspectsWrong : ChangeSpec := { name := "knownSuspects", fn := fun _ => fun
  | [d1, d2, d3] => { results := [.lit (.bool false)], args := [d1, d2, d3] }
  | _ => none }
def KnownSuspectsWrongFalsely : Prop := knownSuspectsRow.holds Tryz.pinned (OpenSpec.ofChange knownSuspectsWrong)

/-- 'wayfinderlaw22.KnownLearns': WHATEVER THE INPUT: true; the input reads as it did. -/
def knownLearnsSpec : ChangeSpec := { name := "knownLearns", fn := fun _ => fun
  | [d1, d2, d3] => { results := [.lit (.bool true)], args := [d1, d2, d3] }
  | _ => none }
def knownLearnsRow : OpenClaim := { program := "yteieacinbfimlaagreat", sum := "7ce6ee441cb0245bce3a9376b62932865e99a855c0b14a58aedc4852aa30e402", func := "wayfinder/wayfinderlaw22.KnownLearns", spec := "knownLearns", unfollowed := true, recurses := true, apart := false }
def KnownLearnsSaid : Prop := knownLearnsRow.holds Tryz.pinned (OpenSpec.ofChange knownLearnsSpec)

/-- ITS FALSE NEIGHBOUR: 'it returns false'. Refute it at one input. -/
def knownLearnsWrong : ChangeSpec := { name := "knownLearns", fn := fun _ => fun
  | [d1, d2, d3] => { results := [.lit (.bool false)], args := [d1, d2, d3] }
  | _ => none }
def KnownLearnsWrongFalsely : Prop := knownLearnsRow.holds Tryz.pinned (OpenSpec.ofChange knownLearnsWrong)

/-- 'wayfinderlaw22.KnownTrue': WHATEVER THE INPUT: true; the input reads as it did. -/
def knownTrueSpec : ChangeSpec := { name := "knownTrue", fn := fun _ => fun
  | [d1, d2, d3] => { results := [.lit (.bool true)], args := [d1, d2, d3] }
  | _ => none }
def knownTrueRow : OpenClaim := { program := "yteieacinbfimlaagreat", sum := "7ce6ee441cb0245bce3a9376b62932865e99a855c0b14a58aedc4852aa30e402", func := "wayfinder/wayfinderlaw22.KnownTrue", spec := "knownTrue", unfollowed := true, recurses := true, apart := false }
def KnownTrueSaid : Prop := knownTrueRow.holds Tryz.pinned (OpenSpec.ofChange knownTrueSpec)

/-- ITS FALSE NEIGHBOUR: 'it returns false'. Refute it at one input. -/
def knownTrueWrong : ChangeSpec := { name := "knownTrue", fn := fun _ => fun
  | [d1, d2, d3] => { results := [.lit (.bool false)], args := [d1, d2, d3] }
  | _ => none }
def KnownTrueWrongFalsely : Prop := knownTrueRow.holds Tryz.pinned (OpenSpec.ofChange knownTrueWrong)

/-- 'wayfinderlaw22.KnownKeeps': WHATEVER THE INPUT: true; the input reads as it did. -/
def knownKeepsSpec : ChangeSpec := { name := "knownKeeps", fn := fun _ => fun
  | [d1, d2, d3] => { results := [.lit (.bool true)], args := [d1, d2, d3] }
  | _ => none }
def knownKeepsRow : OpenClaim := { program := "yteieacinbfimlaagreat", sum := "7ce6ee441cb0245bce3a9376b62932865e99a855c0b14a58aedc4852aa30e402", func := "wayfinder/wayfinderlaw22.KnownKeeps", spec := "knownKeeps", unfollowed := true, recurses := true, apart := false }
def KnownKeepsSaid : Prop := knownKeepsRow.holds Tryz.pinned (OpenSpec.ofChange knownKeepsSpec)

/-- ITS FALSE NEIGHBOUR: 'it returns false'. Refute it at one input. -/
def knownKeepsWrong : ChangeSpec := { name := "knownKeeps", fn := fun _ => fun
  | [d1, d2, d3] => { results := [.lit (.bool false)], args := [d1, d2, d3] }
  | _ => none }
def KnownKeepsWrongFalsely : Prop := knownKeepsRow.holds Tryz.pinned (OpenSpec.ofChange knownKeepsWrong)

/-- 'wayfinderlaw22.KnownOrder': WHATEVER THE INPUT: true; the input reads as it did. -/
def knownOrderSpec : ChangeSpec := { name := "knownOrder", fn := fun _ => fun
  | [d1, d2, d3] => { results := [.lit (.bool true)], args := [d1, d2, d3] }
  | _ => none }
def knownOrderRow : OpenClaim := { program := "yteieacinbfimlaagreat", sum := "7ce6ee441cb0245bce3a9376b62932865e99a855c0b14a58aedc4852aa30e402", func := "wayfinder/wayfinderlaw22.KnownOrder", spec := "knownOrder", unfollowed := true, recurses := true, apart := false }
def KnownOrderSaid : Prop := knownOrderRow.holds Tryz.pinned (OpenSpec.ofChange knownOrderSpec)

/-- ITS FALSE NEIGHBOUR: 'it returns false'. Refute it at one input. -/
def knownOrderWrong : ChangeSpec := { name := "knownOrder", fn := fun _ => fun
  | [d1, d2, d3] => { results := [.lit (.bool false)], args := [d1, d2, d3] }
  | _ => none }
def KnownOrderWrongFalsely : Prop := knownOrderRow.holds Tryz.pinned (OpenSpec.ofChange knownOrderWrong)

/-- 'wayfinderlaw22.KnownLess': WHATEVER THE INPUT: true; the input reads as it did. -/
def knownLessSpec : ChangeSpec := { name := "knownLess", fn := fun _ => fun
  | [d1, d2, d3] => { results := [.lit (.bool true)], args := [d1, d2, d3] }
  | _ => none }
def knownLessRow : OpenClaim := { program := "yteieacinbfimlaagreat", sum := "7ce6ee441cb0245bce3a9376b62932865e99a855c0b14a58aedc4852aa30e402", func := "wayfinder/wayfinderlaw22.KnownLess", spec := "knownLess", unfollowed := true, recurses := true, apart := false }
def KnownLessSaid : Prop := knownLessRow.holds Tryz.pinned (OpenSpec.ofChange knownLessSpec)

/-- ITS FALSE NEIGHBOUR: 'it returns false'. Refute it at one input. -/
def knownLessWrong : ChangeSpec := { name := "knownLess", fn := fun _ => fun
  | [d1, d2, d3] => { results := [.lit (.bool false)], args := [d1, d2, d3] }
  | _ => none }
def KnownLessWrongFalsely : Prop := knownLessRow.holds Tryz.pinned (OpenSpec.ofChange knownLessWrong)

/-- 'wayfinderlaw22.KnownNothing': WHATEVER THE INPUT: true; the input reads as it did. -/
def knownNothingSpec : ChangeSpec := { name := "knownNothing", fn := fun _ => fun
  | [d1, d2, d3] => { results := [.lit (.bool true)], args := [d1, d2, d3] }
  | _ => none }
def knownNothingRow : OpenClaim := { program := "yteieacinbfimlaagreat", sum := "7ce6ee441cb0245bce3a9376b62932865e99a855c0b14a58aedc4852aa30e402", func := "wayfinder/wayfinderlaw22.KnownNothing", spec := "knownNothing", unfollowed := true, recurses := true, apart := false }
def KnownNothingSaid : Prop := knownNothingRow.holds Tryz.pinned (OpenSpec.ofChange knownNothingSpec)

/-- ITS FALSE NEIGHBOUR: 'it returns false'. Refute it at one input. -/
def knownNothingWrong : ChangeSpec := { name := "knownNothing", fn := fun _ => fun
  | [d1, d2, d3] => { results := [.lit (.bool false)], args := [d1, d2, d3] }
  | _ => none }
def KnownNothingWrongFalsely : Prop := knownNothingRow.holds Tryz.pinned (OpenSpec.ofChange knownNothingWrong)

/-- 'wayfindertop.WholeSurvives': WHATEVER THE INPUT: true; the input reads as it did. -/
def wholeSurvivesSpec : ChangeSpec := { name := "wholeSurvives", fn := fun _ => fun
  | [d1, d2, d3] => { results := [.lit (.bool true)], args := [d1, d2, d3] }
  | _ => none }
def wholeSurvivesRow : OpenClaim := { program := "yteieacinbfimlaagreat", sum := "7ce6ee441cb0245bce3a9376b62932865e99a855c0b14a58aedc4852aa30e402", func := "wayfinder/wayfindertop.WholeSurvives", spec := "wholeSurvives", unfollowed := true, recurses := true, apart := false }
def WholeSurvivesSaid : Prop := wholeSurvivesRow.holds Tryz.pinned (OpenSpec.ofChange wholeSurvivesSpec)

/-- ITS FALSE NEIGHBOUR: 'it returns false'. Refute it at one input. -/
def wholeSurvivesWrong : ChangeSpec := { name := "wholeSurvives", fn := fun _ => fun
  | [d1, d2, d3] => { results := [.lit (.bool false)], args := [d1, d2, d3] }
  | _ => none }
def WholeSurvivesWrongFalsely : Prop := wholeSurvivesRow.holds Tryz.pinned (OpenSpec.ofChange wholeSurvivesWrong)

/-- 'wayfindertop.WholeSafe': WHATEVER THE INPUT: true; the input reads as it did. -/
def wholeSafeSpec : ChangeSpec := { name := "wholeSafe", fn := fun _ => fun
  | [d1, d2, d3] => { results := [.lit (.bool true)], args := [d1, d2, d3] }
  | _ => none }
def wholeSafeRow : OpenClaim := { program := "yteieacinbfimlaagreat", sum := "7ce6ee441cb0245bce3a9376b62932865e99a855c0b14a58aedc4852aa30e402", func := "wayfinder/wayfindertop.WholeSafe", spec := "wholeSafe", inPlace := ["internal/bytealg.Count", "internal/bytealg.IndexByte", "internal/bytealg.Index"], unfollowed := true, recurses := true, named := ["internal/bytealg.MaxLen"], apart := false }
def WholeSafeSaid : Prop := wholeSafeRow.holds Tryz.pinned (OpenSpec.ofChange wholeSafeSpec)

/-- ITS FALSE NEIGHBOUR: 'it returns false'. Refute it at one input. -/
def wholeSafeWrong : ChangeSpec := { name := "wholeSafe", fn := fun _ => fun
  | [d1, d2, d3] => { results := [.lit (.bool false)], args := [d1, d2, d3] }
  | _ => none }
def WholeSafeWrongFalsely : Prop := wholeSafeRow.holds Tryz.pinned (OpenSpec.ofChange wholeSafeWrong)

/-- 'wayfindertop.WholeLost': WHATEVER THE INPUT: true; the input reads as it did. -/
def wholeLostSpec : ChangeSpec := { name := "wholeLost", fn := fun _ => fun
  | [d1, d2, d3] => { results := [.lit (.bool true)], args := [d1, d2, d3] }
  | _ => none }
def wholeLostRow : OpenClaim := { program := "yteieacinbfimlaagreat", sum := "7ce6ee441cb0245bce3a9376b62932865e99a855c0b14a58aedc4852aa30e402", func := "wayfinder/wayfindertop.WholeLost", spec := "wholeLost", unfollowed := true, recurses := true, apart := false }
def WholeLostSaid : Prop := wholeLostRow.holds Tryz.pinned (OpenSpec.ofChange wholeLostSpec)

/-- ITS FALSE NEIGHBOUR: 'it returns false'. Refute it at one input. -/
def wholeLostWrong : ChangeSpec := { name := "wholeLost", fn := fun _ => fun
  | [d1, d2, d3] => { results := [.lit (.bool false)], args := [d1, d2, d3] }
  | _ => none }
def WholeLostWrongFalsely : Prop := wholeLostRow.holds Tryz.pinned (OpenSpec.ofChange wholeLostWrong)

/-- 'wayfindertop.WholeLocates': WHATEVER THE INPUT: true; the input reads as it did. -/
def wholeLocatesSpec : ChangeSpec := { name := "wholeLocates", fn := fun _ => fun
  | [d1, d2, d3] => { results := [.lit (.bool true)], args := [d1, d2, d3] }
  | _ => none }
def wholeLocatesRow : OpenClaim := { program := "yteieacinbfimlaagreat", sum := "7ce6ee441cb0245bce3a9376b62932865e99a855c0b14a58aedc4852aa30e402", func := "wayfinder/wayfindertop.WholeLocates", spec := "wholeLocates", inPlace := ["internal/bytealg.IndexByte", "internal/bytealg.Count", "internal/bytealg.Index"], unfollowed := true, recurses := true, named := ["internal/bytealg.MaxLen"], apart := false }
def WholeLocatesSaid : Prop := wholeLocatesRow.holds Tryz.pinned (OpenSpec.ofChange wholeLocatesSpec)

/-- ITS FALSE NEIGHBOUR: 'it returns false'. Refute it at one input. -/
def wholeLocatesWrong : ChangeSpec := { name := "wholeLocates", fn := fun _ => fun
  | [d1, d2, d3] => { results := [.lit (.bool false)], args := [d1, d2, d3] }
  | _ => none }
def WholeLocatesWrongFalsely : Prop := wholeLocatesRow.holds Tryz.pinned (OpenSpec.ofChange wholeLocatesWrong)

/- THE SECOND FORM. 'bulk': how many values and letters a reading holds, each counted each time it is reached (what is shared counts as often as it is met; a slice's spare places count too). A statement '..UptoSaid' is the law's where the arguments, and the package variables that the reading takes, are together of bulk at most 1048576: NARROWER than '..Said'. Prove '..Said' where nothing that the law and all that it calls make is longer than what came in: it says more and counts as full. Else prove '..UptoSaid'. A law counts once. -/
mutual
def uptoBulk {H : Type} : DataW H → Nat
  | .lit (.string bytes) => bytes.length + 1
  | .lit _ => 1
  | .nil => 1
  | .ptr d => uptoBulk d + 1
  | .slice elems spare => uptoBulkAll elems + uptoBulkAll spare + 1
  | .agg parts => uptoBulkAll parts + 1
  | .iface _ d => uptoBulk d + 1
  | .map entries => uptoBulkEntries entries + 1
  | .held _ => 1
def uptoBulkAll {H : Type} : List (DataW H) → Nat
  | [] => 0
  | d :: r => uptoBulk d + uptoBulkAll r
def uptoBulkEntries {H : Type} : List (Lit × DataW H) → Nat
  | [] => 0
  | x :: r => uptoBulkEntry x + uptoBulkEntries r
def uptoBulkEntry {H : Type} : Lit × DataW H → Nat
  | (.string bytes, d) => bytes.length + uptoBulk d + 1
  | (_, d) => uptoBulk d + 1
 end
def uptoSmall : (H : Type) → List (DataW H) → Bool := fun _ ds => decide (uptoBulkAll ds ≤ 1048576)
def OpenSpec.upto (s : _root_.Go.ChangeSpec) : _root_.Go.OpenSpec := { _root_.Go.OpenSpec.ofChange s with cond := some uptoSmall }

/-- 'wayfinderlaw22.KnownMatchesReference', WHERE WHAT IT READS IS OF BULK AT MOST 1048576: true; the input reads as it did. -/
def knownMatchesReferenceUptoRow : OpenClaim := { program := "yteieacinbfimlaagreat", sum := "7ce6ee441cb0245bce3a9376b62932865e99a855c0b14a58aedc4852aa30e402", func := "wayfinder/wayfinderlaw22.KnownMatchesReference", spec := "knownMatchesReference", unfollowed := true, recurses := true, apart := false, narrowed := true }
def KnownMatchesReferenceUptoSaid : Prop := knownMatchesReferenceUptoRow.holds Tryz.pinned (OpenSpec.upto knownMatchesReferenceSpec)

/-- 'wayfinderlaw22.KnownSuspects', WHERE WHAT IT READS IS OF BULK AT MOST 1048576: true; the input reads as it did. -/
def knownSuspectsUptoRow : OpenClaim := { program := "yteieacinbfimlaagreat", sum := "7ce6ee441cb0245bce3a9376b62932865e99a855c0b14a58aedc4852aa30e402", func := "wayfinder/wayfinderlaw22.KnownSuspects", spec := "knownSuspects", unfollowed := true, recurses := true, apart := false, narrowed := true }
def KnownSuspectsUptoSaid : Prop := knownSuspectsUptoRow.holds Tryz.pinned (OpenSpec.upto knownSuspectsSpec)

/-- 'wayfinderlaw22.KnownLearns', WHERE WHAT IT READS IS OF BULK AT MOST 1048576: true; the input reads as it did. -/
def knownLearnsUptoRow : OpenClaim := { program := "yteieacinbfimlaagreat", sum := "7ce6ee441cb0245bce3a9376b62932865e99a855c0b14a58aedc4852aa30e402", func := "wayfinder/wayfinderlaw22.KnownLearns", spec := "knownLearns", unfollowed := true, recurses := true, apart := false, narrowed := true }
def KnownLearnsUptoSaid : Prop := knownLearnsUptoRow.holds Tryz.pinned (OpenSpec.upto knownLearnsSpec)

/-- 'wayfinderlaw22.KnownTrue', WHERE WHAT IT READS IS OF BULK AT MOST 1048576: true; the input reads as it did. -/
def knownTrueUptoRow : OpenClaim := { program := "yteieacinbfimlaagreat", sum := "7ce6ee441cb0245bce3a9376b62932865e99a855c0b14a58aedc4852aa30e402", func := "wayfinder/wayfinderlaw22.KnownTrue", spec := "knownTrue", unfollowed := true, recurses := true, apart := false, narrowed := true }
def KnownTrueUptoSaid : Prop := knownTrueUptoRow.holds Tryz.pinned (OpenSpec.upto knownTrueSpec)

/-- 'wayfinderlaw22.KnownKeeps', WHERE WHAT IT READS IS OF BULK AT MOST 1048576: true; the input reads as it did. -/
def knownKeepsUptoRow : OpenClaim := { program := "yteieacinbfimlaagreat", sum := "7ce6ee441cb0245bce3a9376b62932865e99a855c0b14a58aedc4852aa30e402", func := "wayfinder/wayfinderlaw22.KnownKeeps", spec := "knownKeeps", unfollowed := true, recurses := true, apart := false, narrowed := true }
def KnownKeepsUptoSaid : Prop := knownKeepsUptoRow.holds Tryz.pinned (OpenSpec.upto knownKeepsSpec)

/-- 'wayfinderlaw22.KnownOrder', WHERE WHAT IT READS IS OF BULK AT MOST 1048576: true; the input reads as it did. -/
def knownOrderUptoRow : OpenClaim := { program := "yteieacinbfimlaagreat", sum := "7ce6ee441cb0245bce3a9376b62932865e99a855c0b14a58aedc4852aa30e402", func := "wayfinder/wayfinderlaw22.KnownOrder", spec := "knownOrder", unfollowed := true, recurses := true, apart := false, narrowed := true }
def KnownOrderUptoSaid : Prop := knownOrderUptoRow.holds Tryz.pinned (OpenSpec.upto knownOrderSpec)

/-- 'wayfinderlaw22.KnownLess', WHERE WHAT IT READS IS OF BULK AT MOST 1048576: true; the input reads as it did. -/
def knownLessUptoRow : OpenClaim := { program := "yteieacinbfimlaagreat", sum := "7ce6ee441cb0245bce3a9376b62932865e99a855c0b14a58aedc4852aa30e402", func := "wayfinder/wayfinderlaw22.KnownLess", spec := "knownLess", unfollowed := true, recurses := true, apart := false, narrowed := true }
def KnownLessUptoSaid : Prop := knownLessUptoRow.holds Tryz.pinned (OpenSpec.upto knownLessSpec)

/-- 'wayfinderlaw22.KnownNothing', WHERE WHAT IT READS IS OF BULK AT MOST 1048576: true; the input reads as it did. -/
def knownNothingUptoRow : OpenClaim := { program := "yteieacinbfimlaagreat", sum := "7ce6ee441cb0245bce3a9376b62932865e99a855c0b14a58aedc4852aa30e402", func := "wayfinder/wayfinderlaw22.KnownNothing", spec := "knownNothing", unfollowed := true, recurses := true, apart := false, narrowed := true }
def KnownNothingUptoSaid : Prop := knownNothingUptoRow.holds Tryz.pinned (OpenSpec.upto knownNothingSpec)

/-- 'wayfindertop.WholeSurvives', WHERE WHAT IT READS IS OF BULK AT MOST 1048576: true; the input reads as it did. -/
def wholeSurvivesUptoRow : OpenClaim := { program := "yteieacinbfimlaagreat", sum := "7ce6ee441cb0245bce3a9376b62932865e99a855c0b14a58aedc4852aa30e402", func := "wayfinder/wayfindertop.WholeSurvives", spec := "wholeSurvives", unfollowed := true, recurses := true, apart := false, narrowed := true }
def WholeSurvivesUptoSaid : Prop := wholeSurvivesUptoRow.holds Tryz.pinned (OpenSpec.upto wholeSurvivesSpec)

/-- 'wayfindertop.WholeSafe', WHERE WHAT IT READS IS OF BULK AT MOST 1048576: true; the input reads as it did. -/
def wholeSafeUptoRow : OpenClaim := { program := "yteieacinbfimlaagreat", sum := "7ce6ee441cb0245bce3a9376b62932865e99a855c0b14a58aedc4852aa30e402", func := "wayfinder/wayfindertop.WholeSafe", spec := "wholeSafe", inPlace := ["internal/bytealg.Count", "internal/bytealg.IndexByte", "internal/bytealg.Index"], unfollowed := true, recurses := true, named := ["internal/bytealg.MaxLen"], apart := false, narrowed := true }
def WholeSafeUptoSaid : Prop := wholeSafeUptoRow.holds Tryz.pinned (OpenSpec.upto wholeSafeSpec)

/-- 'wayfindertop.WholeLost', WHERE WHAT IT READS IS OF BULK AT MOST 1048576: true; the input reads as it did. -/
def wholeLostUptoRow : OpenClaim := { program := "yteieacinbfimlaagreat", sum := "7ce6ee441cb0245bce3a9376b62932865e99a855c0b14a58aedc4852aa30e402", func := "wayfinder/wayfindertop.WholeLost", spec := "wholeLost", unfollowed := true, recurses := true, apart := false, narrowed := true }
def WholeLostUptoSaid : Prop := wholeLostUptoRow.holds Tryz.pinned (OpenSpec.upto wholeLostSpec)

/-- 'wayfindertop.WholeLocates', WHERE WHAT IT READS IS OF BULK AT MOST 1048576: true; the input reads as it did. -/
def wholeLocatesUptoRow : OpenClaim := { program := "yteieacinbfimlaagreat", sum := "7ce6ee441cb0245bce3a9376b62932865e99a855c0b14a58aedc4852aa30e402", func := "wayfinder/wayfindertop.WholeLocates", spec := "wholeLocates", inPlace := ["internal/bytealg.IndexByte", "internal/bytealg.Count", "internal/bytealg.Index"], unfollowed := true, recurses := true, named := ["internal/bytealg.MaxLen"], apart := false, narrowed := true }
def WholeLocatesUptoSaid : Prop := wholeLocatesUptoRow.holds Tryz.pinned (OpenSpec.upto wholeLocatesSpec)

end Rows
end Go.Proofs.YteieacinbfimlaaGreat
