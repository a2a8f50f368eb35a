/-
  No cell of these rows narrows 'for every input' (looked for: loops, veiled, ifaces, maps, wideKeys, modest, calm, conditions, laid).
  DERIVED. THE GIVEN ROWS OF THIS SEAT. 4 by the template 'for every input the law returns true; each argument reads behind the call as it read before'; 0 by the template 'total and deterministic' (their statements: YtidlfjajjieepaaGreatTotals.lean).
  GIVEN WITH THE SEED: the statements are not yours to turn. If you find one false, say at which input.
  Laid BY PROGRAM, IN A SANDBOX (cutbox-rows.mjs): the forced cells as the released guide's own fill.sh prints them over the translation 4feecc36b432c98c… (all of the seat's roots in one cut). By AI agents, Wed Nov 11 2026. No macro, syntax, notation, axiom, sorry.
-/
import Derived.Test.YtidlfjajjieepaaGreatChecked
import GoSem.Claim
import GoSem.ClaimJoined
import GoSem.ClaimMapViews
import Derived.JoinedTies
import Derived.KernelRfl
namespace Go.Proofs.YtidlfjajjieepaaGreat
/- THE CELL 'sum', in the pinned program and in every row, IS THE sha256 OF THE DUMP (.gsa) THAT YtidlfjajjieepaaGreatProg.lean LOADS. Nothing in Lean hashes anything: it is a label: what it is worth is what the hold of that sum in a sandbox is worth. -/
noncomputable def Tryz.pinned : Pinned := { name := "ytidlfjajjieepaagreat", sum := "4feecc36b432c98c0bead305078d165bfa480794b700477df472536958e2a1bd", checked := Tryz.checked }
namespace Rows
def none {H : Type} : Left H := { results := [], args := [] }

/-- 'wayfinderlaw25.LocateNews': WHATEVER THE INPUT: true; the input reads as it did. -/
def locateNewsSpec : ChangeSpec := { name := "locateNews", fn := fun _ => fun
  | [d1, d2, d3] => { results := [.lit (.bool true)], args := [d1, d2, d3] }
  | _ => none }
def locateNewsRow : OpenClaim := { program := "ytidlfjajjieepaagreat", sum := "4feecc36b432c98c0bead305078d165bfa480794b700477df472536958e2a1bd", func := "wayfinder/wayfinderlaw25.LocateNews", spec := "locateNews", unfollowed := true, recurses := true, apart := false }
def LocateNewsSaid : Prop := locateNewsRow.holds Tryz.pinned (OpenSpec.ofChange locateNewsSpec)

/-- ITS FALSE NEIGHBOUR: 'it returns false'. Refute it at one input. -/
def locateNewsWrong : ChangeSpec := { name := "locateNews", fn := fun _ => fun
  | [d1, d2, d3] => { results := [.lit (.bool false)], args := [d1, d2, d3] }
  | _ => none }
def LocateNewsWrongFalsely : Prop := locateNewsRow.holds Tryz.pinned (OpenSpec.ofChange locateNewsWrong)

/-- 'wayfinderlaw25.LocateResets': WHATEVER THE INPUT: true; the input reads as it did. -/
def locateResetsSpec : ChangeSpec := { name := "locateResets", fn := fun _ => fun
  | [d1, d2, d3] => { results := [.lit (.bool true)], args := [d1, d2, d3] }
  | _ => none }
def locateResetsRow : OpenClaim := { program := "ytidlfjajjieepaagreat", sum := "4feecc36b432c98c0bead305078d165bfa480794b700477df472536958e2a1bd", func := "wayfinder/wayfinderlaw25.LocateResets", spec := "locateResets", unfollowed := true, recurses := true, apart := false }
def LocateResetsSaid : Prop := locateResetsRow.holds Tryz.pinned (OpenSpec.ofChange locateResetsSpec)

/-- ITS FALSE NEIGHBOUR: 'it returns false'. Refute it at one input. -/
def locateResetsWrong : ChangeSpec := { name := "locateResets", fn := fun _ => fun
  | [d1, d2, d3] => { results := [.lit (.bool false)], args := [d1, d2, d3] }
  | _ => none }
def LocateResetsWrongFalsely : Prop := locateResetsRow.holds Tryz.pinned (OpenSpec.ofChange locateResetsWrong)

/-- 'wayfinderlaw25.LocateMatchesReference': WHATEVER THE INPUT: true; the input reads as it did. -/
def locateMatchesReferenceSpec : ChangeSpec := { name := "locateMatchesReference", fn := fun _ => fun
  | [d1, d2, d3] => { results := [.lit (.bool true)], args := [d1, d2, d3] }
  | _ => none }
def locateMatchesReferenceRow : OpenClaim := { program := "ytidlfjajjieepaagreat", sum := "4feecc36b432c98c0bead305078d165bfa480794b700477df472536958e2a1bd", func := "wayfinder/wayfinderlaw25.LocateMatchesReference", spec := "locateMatchesReference", unfollowed := true, recurses := true, apart := false }
def LocateMatchesReferenceSaid : Prop := locateMatchesReferenceRow.holds Tryz.pinned (OpenSpec.ofChange locateMatchesReferenceSpec)

/-- ITS FALSE NEIGHBOUR: 'it returns false'. Refute it at one input. -/
def locateMatchesReferenceWrong : ChangeSpec := { name := "locateMatchesReference", fn := fun _ => fun
  | [d1, d2, d3] => { results := [.lit (.bool false)], args := [d1, d2, d3] }
  | _ => none }
def LocateMatchesReferenceWrongFalsely : Prop := locateMatchesReferenceRow.holds Tryz.pinned (OpenSpec.ofChange locateMatchesReferenceWrong)

/-- 'wayfinderlaw25.LocateClones': WHATEVER THE INPUT: true; the input reads as it did. -/
def locateClonesSpec : ChangeSpec := { name := "locateClones", fn := fun _ => fun
  | [d1, d2, d3] => { results := [.lit (.bool true)], args := [d1, d2, d3] }
  | _ => none }
def locateClonesRow : OpenClaim := { program := "ytidlfjajjieepaagreat", sum := "4feecc36b432c98c0bead305078d165bfa480794b700477df472536958e2a1bd", func := "wayfinder/wayfinderlaw25.LocateClones", spec := "locateClones", unfollowed := true, recurses := true, apart := false }
def LocateClonesSaid : Prop := locateClonesRow.holds Tryz.pinned (OpenSpec.ofChange locateClonesSpec)

/-- ITS FALSE NEIGHBOUR: 'it returns false'. Refute it at one input. -/
def locateClonesWrong : ChangeSpec := { name := "locateClones", fn := fun _ => fun
  | [d1, d2, d3] => { results := [.lit (.bool false)], args := [d1, d2, d3] }
  | _ => none }
def LocateClonesWrongFalsely : Prop := locateClonesRow.holds Tryz.pinned (OpenSpec.ofChange locateClonesWrong)

/- THE SECOND FORM. 'bulk': how many values and letters a reading holds, each counted each time it is reached (what is shared counts as often as it is met; a slice's spare places count too). A statement '..UptoSaid' is the law's where the arguments, and the package variables that the reading takes, are together of bulk at most 1048576: NARROWER than '..Said'. Prove '..Said' where nothing that the law and all that it calls make is longer than what came in: it says more and counts as full. Else prove '..UptoSaid'. A law counts once. -/
mutual
def uptoBulk {H : Type} : DataW H → Nat
  | .lit (.string bytes) => bytes.length + 1
  | .lit _ => 1
  | .nil => 1
  | .ptr d => uptoBulk d + 1
  | .slice elems spare => uptoBulkAll elems + uptoBulkAll spare + 1
  | .agg parts => uptoBulkAll parts + 1
  | .iface _ d => uptoBulk d + 1
  | .map entries => uptoBulkEntries entries + 1
  | .held _ => 1
def uptoBulkAll {H : Type} : List (DataW H) → Nat
  | [] => 0
  | d :: r => uptoBulk d + uptoBulkAll r
def uptoBulkEntries {H : Type} : List (Lit × DataW H) → Nat
  | [] => 0
  | x :: r => uptoBulkEntry x + uptoBulkEntries r
def uptoBulkEntry {H : Type} : Lit × DataW H → Nat
  | (.string bytes, d) => bytes.length + uptoBulk d + 1
  | (_, d) => uptoBulk d + 1
 end
def uptoSmall : (H : Type) → List (DataW H) → Bool := fun _ ds => decide (uptoBulkAll ds ≤ 1048576)
def OpenSpec.upto (s : _root_.Go.ChangeSpec) : _root_.Go.OpenSpec := { _root_.Go.OpenSpec.ofChange s with cond := some uptoSmall }

/-- 'wayfinderlaw25.LocateNews', WHERE WHAT IT READS IS OF BULK AT MOST 1048576: true; the input reads as it did. -/
def locateNewsUptoRow : OpenClaim := { program := "ytidlfjajjieepaagreat", sum := "4feecc36b432c98c0bead305078d165bfa480794b700477df472536958e2a1bd", func := "wayfinder/wayfinderlaw25.LocateNews", spec := "locateNews", unfollowed := true, recurses := true, apart := false, narrowed := true }
def LocateNewsUptoSaid : Prop := locateNewsUptoRow.holds Tryz.pinned (OpenSpec.upto locateNewsSpec)

/-- 'wayfinderlaw25.LocateResets', WHERE WHAT IT READS IS OF BULK AT MOST 1048576: true; the input reads as it did. -/
def locateResetsUptoRow : OpenClaim := { program := "ytidlfjajjieepaagreat", sum := "4feecc36b432c98c0bead305078d165bfa480794b700477df472536958e2a1bd", func := "wayfinder/wayfinderlaw25.LocateResets", spec := "locateResets", unfollowed := true, recurses := true, apart := false, narrowed := true }
def LocateResetsUptoSaid : Prop := locateResetsUptoRow.holds Tryz.pinned (OpenSpec.upto locateResetsSpec)

/-- 'wayfinderlaw25.LocateMatchesReference', WHERE WHAT IT READS IS OF BULK AT MOST 1048576: true; the input reads as it did. -/
def locateMatchesReferenceUptoRow : OpenClaim := { program := "ytidlfjajjieepaagreat", sum := "4feecc36b432c98c0bead305078d165bfa480794b700477df472536958e2a1bd", func := "wayfinder/wayfinderlaw25.LocateMatchesReference", spec := "locateMatchesReference", unfollowed := true, recurses := true, apart := false, narrowed := true }
def LocateMatchesReferenceUptoSaid : Prop := locateMatchesReferenceUptoRow.holds Tryz.pinned (OpenSpec.upto locateMatchesReferenceSpec)

/-- 'wayfinderlaw25.LocateClones', WHERE WHAT IT READS IS OF BULK AT MOST 1048576: true; the input reads as it did. -/
def locateClonesUptoRow : OpenClaim := { program := "ytidlfjajjieepaagreat", sum := "4feecc36b432c98c0bead305078d165bfa480794b700477df472536958e2a1bd", func := "wayfinder/wayfinderlaw25.LocateClones", spec := "locateClones", unfollowed := true, recurses := true, apart := false, narrowed := true }
def LocateClonesUptoSaid : Prop := locateClonesUptoRow.holds Tryz.pinned (OpenSpec.upto locateClonesSpec)

end Rows
end Go.Proofs.YtidlfjajjieepaaGreat
