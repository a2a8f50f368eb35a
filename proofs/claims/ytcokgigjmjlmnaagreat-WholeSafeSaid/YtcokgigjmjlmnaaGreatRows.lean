/-
  No cell of these rows narrows 'for every input' (looked for: loops, veiled, ifaces, maps, wideKeys, modest, calm, conditions, laid).
  DERIVED. THE GIVEN ROWS OF THIS SEAT. 12 by the template 'for every input the law returns true; each argument reads behind the call as it read before'; 0 by the template 'total and deterministic' (their statements: YtcokgigjmjlmnaaGreatTotals.lean).
  GIVEN WITH THE SEED: the statements are not yours to turn. If you find one false, say at which input.
  Laid BY PROGRAM, IN A SANDBOX (cutbox-rows.mjs): the forced cells as the released guide's own fill.sh prints them over the translation 570461cc7c57d8d8… (all of the seat's roots in one cut). By AI agents, Wed Nov 11 2026. No macro, syntax, notation, axiom, sorry.
-/
import Derived.Test.YtcokgigjmjlmnaaGreatChecked
import GoSem.Claim
import GoSem.ClaimJoined
import GoSem.ClaimMapViews
import Derived.JoinedTies
import Derived.KernelRfl
namespace Go.Proofs.YtcokgigjmjlmnaaGreat
/- THE CELL 'sum', in the pinned program and in every row, IS THE sha256 OF THE DUMP (.gsa) THAT YtcokgigjmjlmnaaGreatProg.lean LOADS. Nothing in Lean hashes anything: it is a label: what it is worth is what the hold of that sum in a sandbox is worth. -/
noncomputable def Tryz.pinned : Pinned := { name := "ytcokgigjmjlmnaagreat", sum := "570461cc7c57d8d85f3ef6c19a42f13793c182f544da8eb8175bb86c9871992a", checked := Tryz.checked }
namespace Rows
def none {H : Type} : Left H := { results := [], args := [] }

/-- 'wayfinderlaw22.KnownTrue': WHATEVER THE INPUT: true; the input reads as it did. -/
def knownTrueSpec : ChangeSpec := { name := "knownTrue", fn := fun _ => fun
  | [d1, d2, d3] => { results := [.lit (.bool true)], args := [d1, d2, d3] }
  | _ => none }
def knownTrueRow : OpenClaim := { program := "ytcokgigjmjlmnaagreat", sum := "570461cc7c57d8d85f3ef6c19a42f13793c182f544da8eb8175bb86c9871992a", func := "wayfinder/wayfinderlaw22.KnownTrue", spec := "knownTrue", unfollowed := true, recurses := true, apart := false }
def KnownTrueSaid : Prop := knownTrueRow.holds Tryz.pinned (OpenSpec.ofChange knownTrueSpec)

/-- ITS FALSE NEIGHBOUR: 'it returns false'. Refute it at one input. -/
def knownTrueWrong : ChangeSpec := { name := "knownTrue", fn := fun _ => fun
  | [d1, d2, d3] => { results := [.lit (.bool false)], args := [d1, d2, d3] }
  | _ => none }
def KnownTrueWrongFalsely : Prop := knownTrueRow.holds Tryz.pinned (OpenSpec.ofChange knownTrueWrong)

/-- 'wayfinderlaw22.KnownOrder': WHATEVER THE INPUT: true; the input reads as it did. -/
def knownOrderSpec : ChangeSpec := { name := "knownOrder", fn := fun _ => fun
  | [d1, d2, d3] => { results := [.lit (.bool true)], args := [d1, d2, d3] }
  | _ => none }
def knownOrderRow : OpenClaim := { program := "ytcokgigjmjlmnaagreat", sum := "570461cc7c57d8d85f3ef6c19a42f13793c182f544da8eb8175bb86c9871992a", func := "wayfinder/wayfinderlaw22.KnownOrder", spec := "knownOrder", unfollowed := true, recurses := true, apart := false }
def KnownOrderSaid : Prop := knownOrderRow.holds Tryz.pinned (OpenSpec.ofChange knownOrderSpec)

/-- ITS FALSE NEIGHBOUR: 'it returns false'. Refute it at one input. -/
def knownOrderWrong : ChangeSpec := { name := "knownOrder", fn := fun _ => fun
  | [d1, d2, d3] => { results := [.lit (.bool false)], args := [d1, d2, d3] }
  | _ => none }
def KnownOrderWrongFalsely : Prop := knownOrderRow.holds Tryz.pinned (OpenSpec.ofChange knownOrderWrong)

/-- 'wayfindertop.WholeSurvives': WHATEVER THE INPUT: true; the input reads as it did. -/
def wholeSurvivesSpec : ChangeSpec := { name := "wholeSurvives", fn := fun _ => fun
  | [d1, d2, d3] => { results := [.lit (.bool true)], args := [d1, d2, d3] }
  | _ => none }
def wholeSurvivesRow : OpenClaim := { program := "ytcokgigjmjlmnaagreat", sum := "570461cc7c57d8d85f3ef6c19a42f13793c182f544da8eb8175bb86c9871992a", func := "wayfinder/wayfindertop.WholeSurvives", spec := "wholeSurvives", unfollowed := true, recurses := true, apart := false }
def WholeSurvivesSaid : Prop := wholeSurvivesRow.holds Tryz.pinned (OpenSpec.ofChange wholeSurvivesSpec)

/-- ITS FALSE NEIGHBOUR: 'it returns false'. Refute it at one input. -/
def wholeSurvivesWrong : ChangeSpec := { name := "wholeSurvives", fn := fun _ => fun
  | [d1, d2, d3] => { results := [.lit (.bool false)], args := [d1, d2, d3] }
  | _ => none }
def WholeSurvivesWrongFalsely : Prop := wholeSurvivesRow.holds Tryz.pinned (OpenSpec.ofChange wholeSurvivesWrong)

/-- 'wayfindertop.WholeSafe': WHATEVER THE INPUT: true; the input reads as it did. -/
def wholeSafeSpec : ChangeSpec := { name := "wholeSafe", fn := fun _ => fun
  | [d1, d2, d3] => { results := [.lit (.bool true)], args := [d1, d2, d3] }
  | _ => none }
def wholeSafeRow : OpenClaim := { program := "ytcokgigjmjlmnaagreat", sum := "570461cc7c57d8d85f3ef6c19a42f13793c182f544da8eb8175bb86c9871992a", func := "wayfinder/wayfindertop.WholeSafe", spec := "wholeSafe", inPlace := ["internal/bytealg.Count", "internal/bytealg.IndexByte", "internal/bytealg.Index"], unfollowed := true, recurses := true, named := ["internal/bytealg.MaxLen"], apart := false }
def WholeSafeSaid : Prop := wholeSafeRow.holds Tryz.pinned (OpenSpec.ofChange wholeSafeSpec)

/-- ITS FALSE NEIGHBOUR: 'it returns false'. Refute it at one input. -/
def wholeSafeWrong : ChangeSpec := { name := "wholeSafe", fn := fun _ => fun
  | [d1, d2, d3] => { results := [.lit (.bool false)], args := [d1, d2, d3] }
  | _ => none }
def WholeSafeWrongFalsely : Prop := wholeSafeRow.holds Tryz.pinned (OpenSpec.ofChange wholeSafeWrong)

/-- 'wayfindertop.WholeLost': WHATEVER THE INPUT: true; the input reads as it did. -/
def wholeLostSpec : ChangeSpec := { name := "wholeLost", fn := fun _ => fun
  | [d1, d2, d3] => { results := [.lit (.bool true)], args := [d1, d2, d3] }
  | _ => none }
def wholeLostRow : OpenClaim := { program := "ytcokgigjmjlmnaagreat", sum := "570461cc7c57d8d85f3ef6c19a42f13793c182f544da8eb8175bb86c9871992a", func := "wayfinder/wayfindertop.WholeLost", spec := "wholeLost", unfollowed := true, recurses := true, apart := false }
def WholeLostSaid : Prop := wholeLostRow.holds Tryz.pinned (OpenSpec.ofChange wholeLostSpec)

/-- ITS FALSE NEIGHBOUR: 'it returns false'. Refute it at one input. -/
def wholeLostWrong : ChangeSpec := { name := "wholeLost", fn := fun _ => fun
  | [d1, d2, d3] => { results := [.lit (.bool false)], args := [d1, d2, d3] }
  | _ => none }
def WholeLostWrongFalsely : Prop := wholeLostRow.holds Tryz.pinned (OpenSpec.ofChange wholeLostWrong)

/-- 'wayfindertop.WholeLocates': WHATEVER THE INPUT: true; the input reads as it did. -/
def wholeLocatesSpec : ChangeSpec := { name := "wholeLocates", fn := fun _ => fun
  | [d1, d2, d3] => { results := [.lit (.bool true)], args := [d1, d2, d3] }
  | _ => none }
def wholeLocatesRow : OpenClaim := { program := "ytcokgigjmjlmnaagreat", sum := "570461cc7c57d8d85f3ef6c19a42f13793c182f544da8eb8175bb86c9871992a", func := "wayfinder/wayfindertop.WholeLocates", spec := "wholeLocates", inPlace := ["internal/bytealg.IndexByte", "internal/bytealg.Count", "internal/bytealg.Index"], unfollowed := true, recurses := true, named := ["internal/bytealg.MaxLen"], apart := false }
def WholeLocatesSaid : Prop := wholeLocatesRow.holds Tryz.pinned (OpenSpec.ofChange wholeLocatesSpec)

/-- ITS FALSE NEIGHBOUR: 'it returns false'. Refute it at one input. -/
def wholeLocatesWrong : ChangeSpec := { name := "wholeLocates", fn := fun _ => fun
  | [d1, d2, d3] => { results := [.lit (.bool false)], args := [d1, d2, d3] }
  | _ => none }
def WholeLocatesWrongFalsely : Prop := wholeLocatesRow.holds Tryz.pinned (OpenSpec.ofChange wholeLocatesWrong)

/-- 'wayfinderlaw25.LocateMatchesReference': WHATEVER THE INPUT: true; the input reads as it did. -/
def locateMatchesReferenceSpec : ChangeSpec := { name := "locateMatchesReference", fn := fun _ => fun
  | [d1, d2, d3] => { results := [.lit (.bool true)], args := [d1, d2, d3] }
  | _ => none }
def locateMatchesReferenceRow : OpenClaim := { program := "ytcokgigjmjlmnaagreat", sum := "570461cc7c57d8d85f3ef6c19a42f13793c182f544da8eb8175bb86c9871992a", func := "wayfinder/wayfinderlaw25.LocateMatchesReference", spec := "locateMatchesReference", unfollowed := true, recurses := true, apart := false }
def LocateMatchesReferenceSaid : Prop := locateMatchesReferenceRow.holds Tryz.pinned (OpenSpec.ofChange locateMatchesReferenceSpec)

/-- ITS FALSE NEIGHBOUR: 'it returns false'. Refute it at one input. -/
def locateMatchesReferenceWrong : ChangeSpec := { name := "locateMatchesReference", fn := fun _ => fun
  | [d1, d2, d3] => { results := [.lit (.bool false)], args := [d1, d2, d3] }
  | _ => none }
def LocateMatchesReferenceWrongFalsely : Prop := locateMatchesReferenceRow.holds Tryz.pinned (OpenSpec.ofChange locateMatchesReferenceWrong)

/-- 'wayfinderlaw25.LocateNews': WHATEVER THE INPUT: true; the input reads as it did. -/
def locateNewsSpec : ChangeSpec := { name := "locateNews", fn := fun _ => fun
  | [d1, d2, d3] => { results := [.lit (.bool true)], args := [d1, d2, d3] }
  | _ => none }
def locateNewsRow : OpenClaim := { program := "ytcokgigjmjlmnaagreat", sum := "570461cc7c57d8d85f3ef6c19a42f13793c182f544da8eb8175bb86c9871992a", func := "wayfinder/wayfinderlaw25.LocateNews", spec := "locateNews", unfollowed := true, recurses := true, apart := false }
def LocateNewsSaid : Prop := locateNewsRow.holds Tryz.pinned (OpenSpec.ofChange locateNewsSpec)

/-- ITS FALSE NEIGHBOUR: 'it returns false'. Refute it at one input. -/
def locateNewsWrong : ChangeSpec := { name := "locateNews", fn := fun _ => fun
  | [d1, d2, d3] => { results := [.lit (.bool false)], args := [d1, d2, d3] }
  | _ => none }
def LocateNewsWrongFalsely : Prop := locateNewsRow.holds Tryz.pinned (OpenSpec.ofChange locateNewsWrong)

/-- 'wayfinderlaw25.LocateHolds': WHATEVER THE INPUT: true; the input reads as it did. -/
def locateHoldsSpec : ChangeSpec := { name := "locateHolds", fn := fun _ => fun
  | [d1, d2, d3] => { results := [.lit (.bool true)], args := [d1, d2, d3] }
  | _ => none }
def locateHoldsRow : OpenClaim := { program := "ytcokgigjmjlmnaagreat", sum := "570461cc7c57d8d85f3ef6c19a42f13793c182f544da8eb8175bb86c9871992a", func := "wayfinder/wayfinderlaw25.LocateHolds", spec := "locateHolds", unfollowed := true, recurses := true, apart := false }
def LocateHoldsSaid : Prop := locateHoldsRow.holds Tryz.pinned (OpenSpec.ofChange locateHoldsSpec)

/-- ITS FALSE NEIGHBOUR: 'it returns false'. Refute it at one input. -/
def locateHoldsWrong : ChangeSpec := { name := "locateHolds", fn := fun _ => fun
  | [d1, d2, d3] => { results := [.lit (.bool false)], args := [d1, d2, d3] }
  | _ => none }
def LocateHoldsWrongFalsely : Prop := locateHoldsRow.holds Tryz.pinned (OpenSpec.ofChange locateHoldsWrong)

/-- 'wayfinderlaw25.LocateKeeps': WHATEVER THE INPUT: true; the input reads as it did. -/
def locateKeepsSpec : ChangeSpec := { name := "locateKeeps", fn := fun _ => fun
  | [d1, d2, d3] => { results := [.lit (.bool true)], args := [d1, d2, d3] }
  | _ => none }
def locateKeepsRow : OpenClaim := { program := "ytcokgigjmjlmnaagreat", sum := "570461cc7c57d8d85f3ef6c19a42f13793c182f544da8eb8175bb86c9871992a", func := "wayfinder/wayfinderlaw25.LocateKeeps", spec := "locateKeeps", unfollowed := true, recurses := true, apart := false }
def LocateKeepsSaid : Prop := locateKeepsRow.holds Tryz.pinned (OpenSpec.ofChange locateKeepsSpec)

/-- ITS FALSE NEIGHBOUR: 'it returns false'. Refute it at one input. -/
def locateKeepsWrong : ChangeSpec := { name := "locateKeeps", fn := fun _ => fun
  | [d1, d2, d3] => { results := [.lit (.bool false)], args := [d1, d2, d3] }
  | _ => none }
def LocateKeepsWrongFalsely : Prop := locateKeepsRow.holds Tryz.pinned (OpenSpec.ofChange locateKeepsWrong)

/-- 'wayfinderlaw25.LocateResets': WHATEVER THE INPUT: true; the input reads as it did. -/
def locateResetsSpec : ChangeSpec := { name := "locateResets", fn := fun _ => fun
  | [d1, d2, d3] => { results := [.lit (.bool true)], args := [d1, d2, d3] }
  | _ => none }
def locateResetsRow : OpenClaim := { program := "ytcokgigjmjlmnaagreat", sum := "570461cc7c57d8d85f3ef6c19a42f13793c182f544da8eb8175bb86c9871992a", func := "wayfinder/wayfinderlaw25.LocateResets", spec := "locateResets", unfollowed := true, recurses := true, apart := false }
def LocateResetsSaid : Prop := locateResetsRow.holds Tryz.pinned (OpenSpec.ofChange locateResetsSpec)

/-- ITS FALSE NEIGHBOUR: 'it returns false'. Refute it at one input. -/
def locateResetsWrong : ChangeSpec := { name := "locateResets", fn := fun _ => fun
  | [d1, d2, d3] => { results := [.lit (.bool false)], args := [d1, d2, d3] }
  | _ => none }
def LocateResetsWrongFalsely : Prop := locateResetsRow.holds Tryz.pinned (OpenSpec.ofChange locateResetsWrong)

/-- 'wayfinderlaw25.LocateClones': WHATEVER THE INPUT: true; the input reads as it did. -/
def locateClonesSpec : ChangeSpec := { name := "locateClones", fn := fun _ => fun
  | [d1, d2, d3] => { results := [.lit (.bool true)], args := [d1, d2, d3] }
  | _ => none }
def locateClonesRow : OpenClaim := { program := "ytcokgigjmjlmnaagreat", sum := "570461cc7c57d8d85f3ef6c19a42f13793c182f544da8eb8175bb86c9871992a", func := "wayfinder/wayfinderlaw25.LocateClones", spec := "locateClones", unfollowed := true, recurses := true, apart := false }
def LocateClonesSaid : Prop := locateClonesRow.holds Tryz.pinned (OpenSpec.ofChange locateClonesSpec)

/-- ITS FALSE NEIGHBOUR: 'it returns false'. Refute it at one input. -/
def locateClonesWrong : ChangeSpec := { name := "locateClones", fn := fun _ => fun
  | [d1, d2, d3] => { results := [.lit (.bool false)], args := [d1, d2, d3] }
  | _ => none }
def LocateClonesWrongFalsely : Prop := locateClonesRow.holds Tryz.pinned (OpenSpec.ofChange locateClonesWrong)

/- THE SECOND FORM. 'bulk': how many values and letters a reading holds, each counted each time it is reached (what is shared counts as often as it is met; a slice's spare places count too). A statement '..UptoSaid' is the law's where the arguments, and the package variables that the reading takes, are together of bulk at most 1048576: NARROWER than '..Said'. Prove '..Said' where nothing that the law and all that it calls make is longer than what came in: it says more and counts as full. Else prove '..UptoSaid'. A law counts once. -/
mutual
def uptoBulk {H : Type} : DataW H → Nat
  | .lit (.string bytes) => bytes.length + 1
  | .lit _ => 1
  | .nil => 1
  | .ptr d => uptoBulk d + 1
  | .slice elems spare => uptoBulkAll elems + uptoBulkAll spare + 1
  | .agg parts => uptoBulkAll parts + 1
  | .iface _ d => uptoBulk d + 1
  | .map entries => uptoBulkEntries entries + 1
  | .held _ => 1
def uptoBulkAll {H : Type} : List (DataW H) → Nat
  | [] => 0
  | d :: r => uptoBulk d + uptoBulkAll r
def uptoBulkEntries {H : Type} : List (Lit × DataW H) → Nat
  | [] => 0
  | x :: r => uptoBulkEntry x + uptoBulkEntries r
def uptoBulkEntry {H : Type} : Lit × DataW H → Nat
  | (.string bytes, d) => bytes.length + uptoBulk d + 1
  | (_, d) => uptoBulk d + 1
 end
def uptoSmall : (H : Type) → List (DataW H) → Bool := fun _ ds => decide (uptoBulkAll ds ≤ 1048576)
def OpenSpec.upto (s : _root_.Go.ChangeSpec) : _root_.Go.OpenSpec := { _root_.Go.OpenSpec.ofChange s with cond := some uptoSmall }

/-- 'wayfinderlaw22.KnownTrue', WHERE WHAT IT READS IS OF BULK AT MOST 1048576: true; the input reads as it did. -/
def knownTrueUptoRow : OpenClaim := { program := "ytcokgigjmjlmnaagreat", sum := "570461cc7c57d8d85f3ef6c19a42f13793c182f544da8eb8175bb86c9871992a", func := "wayfinder/wayfinderlaw22.KnownTrue", spec := "knownTrue", unfollowed := true, recurses := true, apart := false, narrowed := true }
def KnownTrueUptoSaid : Prop := knownTrueUptoRow.holds Tryz.pinned (OpenSpec.upto knownTrueSpec)

/-- 'wayfinderlaw22.KnownOrder', WHERE WHAT IT READS IS OF BULK AT MOST 1048576: true; the input reads as it did. -/
def knownOrderUptoRow : OpenClaim := { program := "ytcokgigjmjlmnaagreat", sum := "570461cc7c57d8d85f3ef6c19a42f13793c182f544da8eb8175bb86c9871992a", func := "wayfinder/wayfinderlaw22.KnownOrder", spec := "knownOrder", unfollowed := true, recurses := true, apart := false, narrowed := true }
def KnownOrderUptoSaid : Prop := knownOrderUptoRow.holds Tryz.pinned (OpenSpec.upto knownOrderSpec)

/-- 'wayfindertop.WholeSurvives', WHERE WHAT IT READS IS OF BULK AT MOST 1048576: true; the input reads as it did. -/
def wholeSurvivesUptoRow : OpenClaim := { program := "ytcokgigjmjlmnaagreat", sum := "570461cc7c57d8d85f3ef6c19a42f13793c182f544da8eb8175bb86c9871992a", func := "wayfinder/wayfindertop.WholeSurvives", spec := "wholeSurvives", unfollowed := true, recurses := true, apart := false, narrowed := true }
def WholeSurvivesUptoSaid : Prop := wholeSurvivesUptoRow.holds Tryz.pinned (OpenSpec.upto wholeSurvivesSpec)

/-- 'wayfindertop.WholeSafe', WHERE WHAT IT READS IS OF BULK AT MOST 1048576: true; the input reads as it did. -/
def wholeSafeUptoRow : OpenClaim := { program := "ytcokgigjmjlmnaagreat", sum := "570461cc7c57d8d85f3ef6c19a42f13793c182f544da8eb8175bb86c9871992a", func := "wayfinder/wayfindertop.WholeSafe", spec := "wholeSafe", inPlace := ["internal/bytealg.Count", "internal/bytealg.IndexByte", "internal/bytealg.Index"], unfollowed := true, recurses := true, named := ["internal/bytealg.MaxLen"], apart := false, narrowed := true }
def WholeSafeUptoSaid : Prop := wholeSafeUptoRow.holds Tryz.pinned (OpenSpec.upto wholeSafeSpec)

/-- 'wayfindertop.WholeLost', WHERE WHAT IT READS IS OF BULK AT MOST 1048576: true; the input reads as it did. -/
def wholeLostUptoRow : OpenClaim := { program := "ytcokgigjmjlmnaagreat", sum := "570461cc7c57d8d85f3ef6c19a42f13793c182f544da8eb8175bb86c9871992a", func := "wayfinder/wayfindertop.WholeLost", spec := "wholeLost", unfollowed := true, recurses := true, apart := false, narrowed := true }
def WholeLostUptoSaid : Prop := wholeLostUptoRow.holds Tryz.pinned (OpenSpec.upto wholeLostSpec)

/-- 'wayfindertop.WholeLocates', WHERE WHAT IT READS IS OF BULK AT MOST 1048576: true; the input reads as it did. -/
def wholeLocatesUptoRow : OpenClaim := { program := "ytcokgigjmjlmnaagreat", sum := "570461cc7c57d8d85f3ef6c19a42f13793c182f544da8eb8175bb86c9871992a", func := "wayfinder/wayfindertop.WholeLocates", spec := "wholeLocates", inPlace := ["internal/bytealg.IndexByte", "internal/bytealg.Count", "internal/bytealg.Index"], unfollowed := true, recurses := true, named := ["internal/bytealg.MaxLen"], apart := false, narrowed := true }
def WholeLocatesUptoSaid : Prop := wholeLocatesUptoRow.holds Tryz.pinned (OpenSpec.upto wholeLocatesSpec)

/-- 'wayfinderlaw25.LocateMatchesReference', WHERE WHAT IT READS IS OF BULK AT MOST 1048576: true; the input reads as it did. -/
def locateMatchesReferenceUptoRow : OpenClaim := { program := "ytcokgigjmjlmnaagreat", sum := "570461cc7c57d8d85f3ef6c19a42f13793c182f544da8eb8175bb86c9871992a", func := "wayfinder/wayfinderlaw25.LocateMatchesReference", spec := "locateMatchesReference", unfollowed := true, recurses := true, apart := false, narrowed := true }
def LocateMatchesReferenceUptoSaid : Prop := locateMatchesReferenceUptoRow.holds Tryz.pinned (OpenSpec.upto locateMatchesReferenceSpec)

/-- 'wayfinderlaw25.LocateNews', WHERE WHAT IT READS IS OF BULK AT MOST 1048576: true; the input reads as it did. -/
def locateNewsUptoRow : OpenClaim := { program := "ytcokgigjmjlmnaagreat", sum := "570461cc7c57d8d85f3ef6c19a42f13793c182f544da8eb8175bb86c9871992a", func := "wayfinder/wayfinderlaw25.LocateNews", spec := "locateNews", unfollowed := true, recurses := true, apart := false, narrowed := true }
def LocateNewsUptoSaid : Prop := locateNewsUptoRow.holds Tryz.pinned (OpenSpec.upto locateNewsSpec)

/-- 'wayfinderlaw25.LocateHolds', WHERE WHAT IT READS IS OF BULK AT MOST 1048576: true; the input reads as it did. -/
def locateHoldsUptoRow : OpenClaim := { program := "ytcokgigjmjlmnaagreat", sum := "570461cc7c57d8d85f3ef6c19a42f13793c182f544da8eb8175bb86c9871992a", func := "wayfinder/wayfinderlaw25.LocateHolds", spec := "locateHolds", unfollowed := true, recurses := true, apart := false, narrowed := true }
def LocateHoldsUptoSaid : Prop := locateHoldsUptoRow.holds Tryz.pinned (OpenSpec.upto locateHoldsSpec)

/-- 'wayfinderlaw25.LocateKeeps', WHERE WHAT IT READS IS OF BULK AT MOST 1048576: true; the input reads as it did. -/
def locateKeepsUptoRow : OpenClaim := { program := "ytcokgigjmjlmnaagreat", sum := "570461cc7c57d8d85f3ef6c19a42f13793c182f544da8eb8175bb86c9871992a", func := "wayfinder/wayfinderlaw25.LocateKeeps", spec := "locateKeeps", unfollowed := true, recurses := true, apart := false, narrowed := true }
def LocateKeepsUptoSaid : Prop := locateKeepsUptoRow.holds Tryz.pinned (OpenSpec.upto locateKeepsSpec)

/-- 'wayfinderlaw25.LocateResets', WHERE WHAT IT READS IS OF BULK AT MOST 1048576: true; the input reads as it did. -/
def locateResetsUptoRow : OpenClaim := { program := "ytcokgigjmjlmnaagreat", sum := "570461cc7c57d8d85f3ef6c19a42f13793c182f544da8eb8175bb86c9871992a", func := "wayfinder/wayfinderlaw25.LocateResets", spec := "locateResets", unfollowed := true, recurses := true, apart := false, narrowed := true }
def LocateResetsUptoSaid : Prop := locateResetsUptoRow.holds Tryz.pinned (OpenSpec.upto locateResetsSpec)

/-- 'wayfinderlaw25.LocateClones', WHERE WHAT IT READS IS OF BULK AT MOST 1048576: true; the input reads as it did. -/
def locateClonesUptoRow : OpenClaim := { program := "ytcokgigjmjlmnaagreat", sum := "570461cc7c57d8d85f3ef6c19a42f13793c182f544da8eb8175bb86c9871992a", func := "wayfinder/wayfinderlaw25.LocateClones", spec := "locateClones", unfollowed := true, recurses := true, apart := false, narrowed := true }
def LocateClonesUptoSaid : Prop := locateClonesUptoRow.holds Tryz.pinned (OpenSpec.upto locateClonesSpec)

end Rows
end Go.Proofs.YtcokgigjmjlmnaaGreat
