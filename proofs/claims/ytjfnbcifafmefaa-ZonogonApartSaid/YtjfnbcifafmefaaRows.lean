/-
  No cell of these rows narrows 'for every input' (looked for: loops, veiled, ifaces, maps, wideKeys, modest, calm, conditions, laid).
  DERIVED. THE GIVEN ROWS OF THIS SEAT. 10 by the template 'for every input the law returns true; each argument reads behind the call as it read before'; 0 by the template 'total and deterministic' (their statements: YtjfnbcifafmefaaTotals.lean).
  GIVEN WITH THE SEED: the statements are not yours to turn. If you find one false, say at which input.
  Laid BY PROGRAM, IN A SANDBOX (cutbox-rows.mjs): the forced cells as the released guide's own fill.sh prints them over the translation afdf3e02dd1fd829… (all of the seat's roots in one cut). By AI agents, Wed Nov 11 2026. No macro, syntax, notation, axiom, sorry.
-/
import Derived.Test.YtjfnbcifafmefaaChecked
import GoSem.Claim
import GoSem.ClaimJoined
import GoSem.ClaimMapViews
import Derived.JoinedTies
import Derived.KernelRfl
namespace Go.Proofs.Ytjfnbcifafmefaa
/- THE CELL 'sum', in the pinned program and in every row, IS THE sha256 OF THE DUMP (.gsa) THAT YtjfnbcifafmefaaProg.lean LOADS. Nothing in Lean hashes anything: it is a label: what it is worth is what the hold of that sum in a sandbox is worth. -/
noncomputable def Try.pinned : Pinned := { name := "ytjfnbcifafmefaa", sum := "afdf3e02dd1fd8299e9be6f02116d7707db0f00759f66ba7112e038c30eb16ea", checked := Try.checked }
namespace Rows
def none {H : Type} : Left H := { results := [], args := [] }

/-- 'wayfinderlaw07.ZonogonMatchesReference': WHATEVER THE INPUT: true; the input reads as it did. -/
def zonogonMatchesReferenceSpec : ChangeSpec := { name := "zonogonMatchesReference", fn := fun _ => fun
  | [d] => { results := [.lit (.bool true)], args := [d] }
  | _ => none }
def zonogonMatchesReferenceRow : OpenClaim := { program := "ytjfnbcifafmefaa", sum := "afdf3e02dd1fd8299e9be6f02116d7707db0f00759f66ba7112e038c30eb16ea", func := "wayfinder/wayfinderlaw07.ZonogonMatchesReference", spec := "zonogonMatchesReference", unfollowed := true, recurses := true, apart := false }
def ZonogonMatchesReferenceSaid : Prop := zonogonMatchesReferenceRow.holds Try.pinned (OpenSpec.ofChange zonogonMatchesReferenceSpec)

/-- ITS FALSE NEIGHBOUR: 'it returns false'. Refute it at one input. -/
def zonogonMatchesReferenceWrong : ChangeSpec := { name := "zonogonMatchesReference", fn := fun _ => fun
  | [d] => { results := [.lit (.bool false)], args := [d] }
  | _ => none }
def ZonogonMatchesReferenceWrongFalsely : Prop := zonogonMatchesReferenceRow.holds Try.pinned (OpenSpec.ofChange zonogonMatchesReferenceWrong)

/-- 'wayfinderlaw07.ZonogonMakes': WHATEVER THE INPUT: true; the input reads as it did. -/
def zonogonMakesSpec : ChangeSpec := { name := "zonogonMakes", fn := fun _ => fun
  | [d1, d2, d3] => { results := [.lit (.bool true)], args := [d1, d2, d3] }
  | _ => none }
def zonogonMakesRow : OpenClaim := { program := "ytjfnbcifafmefaa", sum := "afdf3e02dd1fd8299e9be6f02116d7707db0f00759f66ba7112e038c30eb16ea", func := "wayfinder/wayfinderlaw07.ZonogonMakes", spec := "zonogonMakes", unfollowed := true, recurses := true, apart := false }
def ZonogonMakesSaid : Prop := zonogonMakesRow.holds Try.pinned (OpenSpec.ofChange zonogonMakesSpec)

/-- ITS FALSE NEIGHBOUR: 'it returns false'. Refute it at one input. -/
def zonogonMakesWrong : ChangeSpec := { name := "zonogonMakes", fn := fun _ => fun
  | [d1, d2, d3] => { results := [.lit (.bool false)], args := [d1, d2, d3] }
  | _ => none }
def ZonogonMakesWrongFalsely : Prop := zonogonMakesRow.holds Try.pinned (OpenSpec.ofChange zonogonMakesWrong)

/-- 'wayfinderlaw07.ZonogonSums': WHATEVER THE INPUT: true; the input reads as it did. -/
def zonogonSumsSpec : ChangeSpec := { name := "zonogonSums", fn := fun _ => fun
  | [d1, d2, d3] => { results := [.lit (.bool true)], args := [d1, d2, d3] }
  | _ => none }
def zonogonSumsRow : OpenClaim := { program := "ytjfnbcifafmefaa", sum := "afdf3e02dd1fd8299e9be6f02116d7707db0f00759f66ba7112e038c30eb16ea", func := "wayfinder/wayfinderlaw07.ZonogonSums", spec := "zonogonSums", unfollowed := true, recurses := true, apart := false }
def ZonogonSumsSaid : Prop := zonogonSumsRow.holds Try.pinned (OpenSpec.ofChange zonogonSumsSpec)

/-- ITS FALSE NEIGHBOUR: 'it returns false'. Refute it at one input. -/
def zonogonSumsWrong : ChangeSpec := { name := "zonogonSums", fn := fun _ => fun
  | [d1, d2, d3] => { results := [.lit (.bool false)], args := [d1, d2, d3] }
  | _ => none }
def ZonogonSumsWrongFalsely : Prop := zonogonSumsRow.holds Try.pinned (OpenSpec.ofChange zonogonSumsWrong)

/-- 'wayfinderlaw07.ZonogonSupports': WHATEVER THE INPUT: true; the input reads as it did. -/
def zonogonSupportsSpec : ChangeSpec := { name := "zonogonSupports", fn := fun _ => fun
  | [d1, d2, d3] => { results := [.lit (.bool true)], args := [d1, d2, d3] }
  | _ => none }
def zonogonSupportsRow : OpenClaim := { program := "ytjfnbcifafmefaa", sum := "afdf3e02dd1fd8299e9be6f02116d7707db0f00759f66ba7112e038c30eb16ea", func := "wayfinder/wayfinderlaw07.ZonogonSupports", spec := "zonogonSupports", unfollowed := true, recurses := true, apart := false }
def ZonogonSupportsSaid : Prop := zonogonSupportsRow.holds Try.pinned (OpenSpec.ofChange zonogonSupportsSpec)

/-- ITS FALSE NEIGHBOUR: 'it returns false'. Refute it at one input. -/
def zonogonSupportsWrong : ChangeSpec := { name := "zonogonSupports", fn := fun _ => fun
  | [d1, d2, d3] => { results := [.lit (.bool false)], args := [d1, d2, d3] }
  | _ => none }
def ZonogonSupportsWrongFalsely : Prop := zonogonSupportsRow.holds Try.pinned (OpenSpec.ofChange zonogonSupportsWrong)

/-- 'wayfinderlaw07.ZonogonPoints': WHATEVER THE INPUT: true; the input reads as it did. -/
def zonogonPointsSpec : ChangeSpec := { name := "zonogonPoints", fn := fun _ => fun
  | [d1, d2, d3] => { results := [.lit (.bool true)], args := [d1, d2, d3] }
  | _ => none }
def zonogonPointsRow : OpenClaim := { program := "ytjfnbcifafmefaa", sum := "afdf3e02dd1fd8299e9be6f02116d7707db0f00759f66ba7112e038c30eb16ea", func := "wayfinder/wayfinderlaw07.ZonogonPoints", spec := "zonogonPoints", unfollowed := true, recurses := true, apart := false }
def ZonogonPointsSaid : Prop := zonogonPointsRow.holds Try.pinned (OpenSpec.ofChange zonogonPointsSpec)

/-- ITS FALSE NEIGHBOUR: 'it returns false'. Refute it at one input. -/
def zonogonPointsWrong : ChangeSpec := { name := "zonogonPoints", fn := fun _ => fun
  | [d1, d2, d3] => { results := [.lit (.bool false)], args := [d1, d2, d3] }
  | _ => none }
def ZonogonPointsWrongFalsely : Prop := zonogonPointsRow.holds Try.pinned (OpenSpec.ofChange zonogonPointsWrong)

/-- 'wayfinderlaw07.ZonogonDirections': WHATEVER THE INPUT: true; the input reads as it did. -/
def zonogonDirectionsSpec : ChangeSpec := { name := "zonogonDirections", fn := fun _ => fun
  | [d1, d2, d3] => { results := [.lit (.bool true)], args := [d1, d2, d3] }
  | _ => none }
def zonogonDirectionsRow : OpenClaim := { program := "ytjfnbcifafmefaa", sum := "afdf3e02dd1fd8299e9be6f02116d7707db0f00759f66ba7112e038c30eb16ea", func := "wayfinder/wayfinderlaw07.ZonogonDirections", spec := "zonogonDirections", unfollowed := true, recurses := true, apart := false }
def ZonogonDirectionsSaid : Prop := zonogonDirectionsRow.holds Try.pinned (OpenSpec.ofChange zonogonDirectionsSpec)

/-- ITS FALSE NEIGHBOUR: 'it returns false'. Refute it at one input. -/
def zonogonDirectionsWrong : ChangeSpec := { name := "zonogonDirections", fn := fun _ => fun
  | [d1, d2, d3] => { results := [.lit (.bool false)], args := [d1, d2, d3] }
  | _ => none }
def ZonogonDirectionsWrongFalsely : Prop := zonogonDirectionsRow.holds Try.pinned (OpenSpec.ofChange zonogonDirectionsWrong)

/-- 'wayfinderlaw07.ZonogonSame': WHATEVER THE INPUT: true; the input reads as it did. -/
def zonogonSameSpec : ChangeSpec := { name := "zonogonSame", fn := fun _ => fun
  | [d1, d2] => { results := [.lit (.bool true)], args := [d1, d2] }
  | _ => none }
def zonogonSameRow : OpenClaim := { program := "ytjfnbcifafmefaa", sum := "afdf3e02dd1fd8299e9be6f02116d7707db0f00759f66ba7112e038c30eb16ea", func := "wayfinder/wayfinderlaw07.ZonogonSame", spec := "zonogonSame", unfollowed := true, recurses := true, apart := false }
def ZonogonSameSaid : Prop := zonogonSameRow.holds Try.pinned (OpenSpec.ofChange zonogonSameSpec)

/-- ITS FALSE NEIGHBOUR: 'it returns false'. Refute it at one input. -/
def zonogonSameWrong : ChangeSpec := { name := "zonogonSame", fn := fun _ => fun
  | [d1, d2] => { results := [.lit (.bool false)], args := [d1, d2] }
  | _ => none }
def ZonogonSameWrongFalsely : Prop := zonogonSameRow.holds Try.pinned (OpenSpec.ofChange zonogonSameWrong)

/-- 'wayfinderlaw07.ZonogonApart': WHATEVER THE INPUT: true; the input reads as it did. -/
def zonogonApartSpec : ChangeSpec := { name := "zonogonApart", fn := fun _ => fun
  | [d1, d2] => { results := [.lit (.bool true)], args := [d1, d2] }
  | _ => none }
def zonogonApartRow : OpenClaim := { program := "ytjfnbcifafmefaa", sum := "afdf3e02dd1fd8299e9be6f02116d7707db0f00759f66ba7112e038c30eb16ea", func := "wayfinder/wayfinderlaw07.ZonogonApart", spec := "zonogonApart", unfollowed := true, recurses := true, apart := false }
def ZonogonApartSaid : Prop := zonogonApartRow.holds Try.pinned (OpenSpec.ofChange zonogonApartSpec)

/-- ITS FALSE NEIGHBOUR: 'it returns false'. Refute it at one input. -/
def zonogonApartWrong : ChangeSpec := { name := "zonogonApart", fn := fun _ => fun
  | [d1, d2] => { results := [.lit (.bool false)], args := [d1, d2] }
  | _ => none }
def ZonogonApartWrongFalsely : Prop := zonogonApartRow.holds Try.pinned (OpenSpec.ofChange zonogonApartWrong)

/-- 'wayfinderlaw07.ZonogonMeets': WHATEVER THE INPUT: true; the input reads as it did. -/
def zonogonMeetsSpec : ChangeSpec := { name := "zonogonMeets", fn := fun _ => fun
  | [d1, d2, d3] => { results := [.lit (.bool true)], args := [d1, d2, d3] }
  | _ => none }
def zonogonMeetsRow : OpenClaim := { program := "ytjfnbcifafmefaa", sum := "afdf3e02dd1fd8299e9be6f02116d7707db0f00759f66ba7112e038c30eb16ea", func := "wayfinder/wayfinderlaw07.ZonogonMeets", spec := "zonogonMeets", unfollowed := true, recurses := true, apart := false }
def ZonogonMeetsSaid : Prop := zonogonMeetsRow.holds Try.pinned (OpenSpec.ofChange zonogonMeetsSpec)

/-- ITS FALSE NEIGHBOUR: 'it returns false'. Refute it at one input. -/
def zonogonMeetsWrong : ChangeSpec := { name := "zonogonMeets", fn := fun _ => fun
  | [d1, d2, d3] => { results := [.lit (.bool false)], args := [d1, d2, d3] }
  | _ => none }
def ZonogonMeetsWrongFalsely : Prop := zonogonMeetsRow.holds Try.pinned (OpenSpec.ofChange zonogonMeetsWrong)

/-- 'wayfinderlaw07.ZonogonReduces': WHATEVER THE INPUT: true; the input reads as it did. -/
def zonogonReducesSpec : ChangeSpec := { name := "zonogonReduces", fn := fun _ => fun
  | [d1, d2] => { results := [.lit (.bool true)], args := [d1, d2] }
  | _ => none }
def zonogonReducesRow : OpenClaim := { program := "ytjfnbcifafmefaa", sum := "afdf3e02dd1fd8299e9be6f02116d7707db0f00759f66ba7112e038c30eb16ea", func := "wayfinder/wayfinderlaw07.ZonogonReduces", spec := "zonogonReduces", unfollowed := true, recurses := true, apart := false }
def ZonogonReducesSaid : Prop := zonogonReducesRow.holds Try.pinned (OpenSpec.ofChange zonogonReducesSpec)

/-- ITS FALSE NEIGHBOUR: 'it returns false'. Refute it at one input. -/
def zonogonReducesWrong : ChangeSpec := { name := "zonogonReduces", fn := fun _ => fun
  | [d1, d2] => { results := [.lit (.bool false)], args := [d1, d2] }
  | _ => none }
def ZonogonReducesWrongFalsely : Prop := zonogonReducesRow.holds Try.pinned (OpenSpec.ofChange zonogonReducesWrong)

/- THE SECOND FORM. 'bulk': how many values and letters a reading holds, each counted each time it is reached (what is shared counts as often as it is met; a slice's spare places count too). A statement '..UptoSaid' is the law's where the arguments, and the package variables that the reading takes, are together of bulk at most 1048576: NARROWER than '..Said'. Prove '..Said' where nothing that the law and all that it calls make is longer than what came in: it says more and counts as full. Else prove '..UptoSaid'. A law counts once. -/
mutual
def uptoBulk {H : Type} : DataW H → Nat
  | .lit (.string bytes) => bytes.length + 1
  | .lit _ => 1
  | .nil => 1
  | .ptr d => uptoBulk d + 1
  | .slice elems spare => uptoBulkAll elems + uptoBulkAll spare + 1
  | .agg parts => uptoBulkAll parts + 1
  | .iface _ d => uptoBulk d + 1
  | .map entries => uptoBulkEntries entries + 1
  | .held _ => 1
def uptoBulkAll {H : Type} : List (DataW H) → Nat
  | [] => 0
  | d :: r => uptoBulk d + uptoBulkAll r
def uptoBulkEntries {H : Type} : List (Lit × DataW H) → Nat
  | [] => 0
  | x :: r => uptoBulkEntry x + uptoBulkEntries r
def uptoBulkEntry {H : Type} : Lit × DataW H → Nat
  | (.string bytes, d) => bytes.length + uptoBulk d + 1
  | (_, d) => uptoBulk d + 1
 end
def uptoSmall : (H : Type) → List (DataW H) → Bool := fun _ ds => decide (uptoBulkAll ds ≤ 1048576)
def OpenSpec.upto (s : _root_.Go.ChangeSpec) : _root_.Go.OpenSpec := { _root_.Go.OpenSpec.ofChange s with cond := some uptoSmall }

/-- 'wayfinderlaw07.ZonogonMatchesReference', WHERE WHAT IT READS IS OF BULK AT MOST 1048576: true; the input reads as it did. -/
def zonogonMatchesReferenceUptoRow : OpenClaim := { program := "ytjfnbcifafmefaa", sum := "afdf3e02dd1fd8299e9be6f02116d7707db0f00759f66ba7112e038c30eb16ea", func := "wayfinder/wayfinderlaw07.ZonogonMatchesReference", spec := "zonogonMatchesReference", unfollowed := true, recurses := true, apart := false, narrowed := true }
def ZonogonMatchesReferenceUptoSaid : Prop := zonogonMatchesReferenceUptoRow.holds Try.pinned (OpenSpec.upto zonogonMatchesReferenceSpec)

/-- 'wayfinderlaw07.ZonogonMakes', WHERE WHAT IT READS IS OF BULK AT MOST 1048576: true; the input reads as it did. -/
def zonogonMakesUptoRow : OpenClaim := { program := "ytjfnbcifafmefaa", sum := "afdf3e02dd1fd8299e9be6f02116d7707db0f00759f66ba7112e038c30eb16ea", func := "wayfinder/wayfinderlaw07.ZonogonMakes", spec := "zonogonMakes", unfollowed := true, recurses := true, apart := false, narrowed := true }
def ZonogonMakesUptoSaid : Prop := zonogonMakesUptoRow.holds Try.pinned (OpenSpec.upto zonogonMakesSpec)

/-- 'wayfinderlaw07.ZonogonSums', WHERE WHAT IT READS IS OF BULK AT MOST 1048576: true; the input reads as it did. -/
def zonogonSumsUptoRow : OpenClaim := { program := "ytjfnbcifafmefaa", sum := "afdf3e02dd1fd8299e9be6f02116d7707db0f00759f66ba7112e038c30eb16ea", func := "wayfinder/wayfinderlaw07.ZonogonSums", spec := "zonogonSums", unfollowed := true, recurses := true, apart := false, narrowed := true }
def ZonogonSumsUptoSaid : Prop := zonogonSumsUptoRow.holds Try.pinned (OpenSpec.upto zonogonSumsSpec)

/-- 'wayfinderlaw07.ZonogonSupports', WHERE WHAT IT READS IS OF BULK AT MOST 1048576: true; the input reads as it did. -/
def zonogonSupportsUptoRow : OpenClaim := { program := "ytjfnbcifafmefaa", sum := "afdf3e02dd1fd8299e9be6f02116d7707db0f00759f66ba7112e038c30eb16ea", func := "wayfinder/wayfinderlaw07.ZonogonSupports", spec := "zonogonSupports", unfollowed := true, recurses := true, apart := false, narrowed := true }
def ZonogonSupportsUptoSaid : Prop := zonogonSupportsUptoRow.holds Try.pinned (OpenSpec.upto zonogonSupportsSpec)

/-- 'wayfinderlaw07.ZonogonPoints', WHERE WHAT IT READS IS OF BULK AT MOST 1048576: true; the input reads as it did. -/
def zonogonPointsUptoRow : OpenClaim := { program := "ytjfnbcifafmefaa", sum := "afdf3e02dd1fd8299e9be6f02116d7707db0f00759f66ba7112e038c30eb16ea", func := "wayfinder/wayfinderlaw07.ZonogonPoints", spec := "zonogonPoints", unfollowed := true, recurses := true, apart := false, narrowed := true }
def ZonogonPointsUptoSaid : Prop := zonogonPointsUptoRow.holds Try.pinned (OpenSpec.upto zonogonPointsSpec)

/-- 'wayfinderlaw07.ZonogonDirections', WHERE WHAT IT READS IS OF BULK AT MOST 1048576: true; the input reads as it did. -/
def zonogonDirectionsUptoRow : OpenClaim := { program := "ytjfnbcifafmefaa", sum := "afdf3e02dd1fd8299e9be6f02116d7707db0f00759f66ba7112e038c30eb16ea", func := "wayfinder/wayfinderlaw07.ZonogonDirections", spec := "zonogonDirections", unfollowed := true, recurses := true, apart := false, narrowed := true }
def ZonogonDirectionsUptoSaid : Prop := zonogonDirectionsUptoRow.holds Try.pinned (OpenSpec.upto zonogonDirectionsSpec)

/-- 'wayfinderlaw07.ZonogonSame', WHERE WHAT IT READS IS OF BULK AT MOST 1048576: true; the input reads as it did. -/
def zonogonSameUptoRow : OpenClaim := { program := "ytjfnbcifafmefaa", sum := "afdf3e02dd1fd8299e9be6f02116d7707db0f00759f66ba7112e038c30eb16ea", func := "wayfinder/wayfinderlaw07.ZonogonSame", spec := "zonogonSame", unfollowed := true, recurses := true, apart := false, narrowed := true }
def ZonogonSameUptoSaid : Prop := zonogonSameUptoRow.holds Try.pinned (OpenSpec.upto zonogonSameSpec)

/-- 'wayfinderlaw07.ZonogonApart', WHERE WHAT IT READS IS OF BULK AT MOST 1048576: true; the input reads as it did. -/
def zonogonApartUptoRow : OpenClaim := { program := "ytjfnbcifafmefaa", sum := "afdf3e02dd1fd8299e9be6f02116d7707db0f00759f66ba7112e038c30eb16ea", func := "wayfinder/wayfinderlaw07.ZonogonApart", spec := "zonogonApart", unfollowed := true, recurses := true, apart := false, narrowed := true }
def ZonogonApartUptoSaid : Prop := zonogonApartUptoRow.holds Try.pinned (OpenSpec.upto zonogonApartSpec)

/-- 'wayfinderlaw07.ZonogonMeets', WHERE WHAT IT READS IS OF BULK AT MOST 1048576: true; the input reads as it did. -/
def zonogonMeetsUptoRow : OpenClaim := { program := "ytjfnbcifafmefaa", sum := "afdf3e02dd1fd8299e9be6f02116d7707db0f00759f66ba7112e038c30eb16ea", func := "wayfinder/wayfinderlaw07.ZonogonMeets", spec := "zonogonMeets", unfollowed := true, recurses := true, apart := false, narrowed := true }
def ZonogonMeetsUptoSaid : Prop := zonogonMeetsUptoRow.holds Try.pinned (OpenSpec.upto zonogonMeetsSpec)

/-- 'wayfinderlaw07.ZonogonReduces', WHERE WHAT IT READS IS OF BULK AT MOST 1048576: true; the input reads as it did. -/
def zonogonReducesUptoRow : OpenClaim := { program := "ytjfnbcifafmefaa", sum := "afdf3e02dd1fd8299e9be6f02116d7707db0f00759f66ba7112e038c30eb16ea", func := "wayfinder/wayfinderlaw07.ZonogonReduces", spec := "zonogonReduces", unfollowed := true, recurses := true, apart := false, narrowed := true }
def ZonogonReducesUptoSaid : Prop := zonogonReducesUptoRow.holds Try.pinned (OpenSpec.upto zonogonReducesSpec)

end Rows
end Go.Proofs.Ytjfnbcifafmefaa
