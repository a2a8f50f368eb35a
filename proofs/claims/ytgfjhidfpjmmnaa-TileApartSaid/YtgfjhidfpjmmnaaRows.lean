/-
  No cell of these rows narrows 'for every input' (looked for: loops, veiled, ifaces, maps, wideKeys, modest, calm, conditions, laid).
  DERIVED. THE GIVEN ROWS OF THIS SEAT. 7 by the template 'for every input the law returns true; each argument reads behind the call as it read before'; 0 by the template 'total and deterministic' (their statements: YtgfjhidfpjmmnaaTotals.lean).
  GIVEN WITH THE SEED: the statements are not yours to turn. If you find one false, say at which input.
  Laid BY PROGRAM, IN A SANDBOX (cutbox-rows.mjs): the forced cells as the released guide's own fill.sh prints them over the translation c362ad127b4dd0f3… (all of the seat's roots in one cut). By AI agents, Wed Nov 11 2026. No macro, syntax, notation, axiom, sorry.
-/
import Derived.Test.YtgfjhidfpjmmnaaChecked
import GoSem.Claim
import GoSem.ClaimJoined
import GoSem.ClaimMapViews
import Derived.JoinedTies
import Derived.KernelRfl
namespace Go.Proofs.Ytgfjhidfpjmmnaa
/- THE CELL 'sum', in the pinned program and in every row, IS THE sha256 OF THE DUMP (.gsa) THAT YtgfjhidfpjmmnaaProg.lean LOADS. Nothing in Lean hashes anything: it is a label: what it is worth is what the hold of that sum in a sandbox is worth. -/
noncomputable def Try.pinned : Pinned := { name := "ytgfjhidfpjmmnaa", sum := "c362ad127b4dd0f342352aceea04fbb2fd67252c831a9390582cca998f1af176", checked := Try.checked }
namespace Rows
def none {H : Type} : Left H := { results := [], args := [] }

/-- 'wayfinderlaw16.TilePacks': WHATEVER THE INPUT: true; the input reads as it did. -/
def tilePacksSpec : ChangeSpec := { name := "tilePacks", fn := fun _ => fun
  | [d] => { results := [.lit (.bool true)], args := [d] }
  | _ => none }
def tilePacksRow : OpenClaim := { program := "ytgfjhidfpjmmnaa", sum := "c362ad127b4dd0f342352aceea04fbb2fd67252c831a9390582cca998f1af176", func := "wayfinder/wayfinderlaw16.TilePacks", spec := "tilePacks", unfollowed := true, recurses := true, plainKeys := false, apart := false }
def TilePacksSaid : Prop := tilePacksRow.holds Try.pinned (OpenSpec.ofChange tilePacksSpec)

/-- ITS FALSE NEIGHBOUR: 'it returns false'. Refute it at one input. -/
def tilePacksWrong : ChangeSpec := { name := "tilePacks", fn := fun _ => fun
  | [d] => { results := [.lit (.bool false)], args := [d] }
  | _ => none }
def TilePacksWrongFalsely : Prop := tilePacksRow.holds Try.pinned (OpenSpec.ofChange tilePacksWrong)

/-- 'wayfinderlaw16.TileUnpacks': WHATEVER THE INPUT: true; the input reads as it did. -/
def tileUnpacksSpec : ChangeSpec := { name := "tileUnpacks", fn := fun _ => fun
  | [d] => { results := [.lit (.bool true)], args := [d] }
  | _ => none }
def tileUnpacksRow : OpenClaim := { program := "ytgfjhidfpjmmnaa", sum := "c362ad127b4dd0f342352aceea04fbb2fd67252c831a9390582cca998f1af176", func := "wayfinder/wayfinderlaw16.TileUnpacks", spec := "tileUnpacks", unfollowed := true, recurses := true, plainKeys := false, apart := false }
def TileUnpacksSaid : Prop := tileUnpacksRow.holds Try.pinned (OpenSpec.ofChange tileUnpacksSpec)

/-- ITS FALSE NEIGHBOUR: 'it returns false'. Refute it at one input. -/
def tileUnpacksWrong : ChangeSpec := { name := "tileUnpacks", fn := fun _ => fun
  | [d] => { results := [.lit (.bool false)], args := [d] }
  | _ => none }
def TileUnpacksWrongFalsely : Prop := tileUnpacksRow.holds Try.pinned (OpenSpec.ofChange tileUnpacksWrong)

/-- 'wayfinderlaw16.TileAdds': WHATEVER THE INPUT: true; the input reads as it did. -/
def tileAddsSpec : ChangeSpec := { name := "tileAdds", fn := fun _ => fun
  | [d1, d2] => { results := [.lit (.bool true)], args := [d1, d2] }
  | _ => none }
def tileAddsRow : OpenClaim := { program := "ytgfjhidfpjmmnaa", sum := "c362ad127b4dd0f342352aceea04fbb2fd67252c831a9390582cca998f1af176", func := "wayfinder/wayfinderlaw16.TileAdds", spec := "tileAdds", unfollowed := true, recurses := true, plainKeys := false, apart := false }
def TileAddsSaid : Prop := tileAddsRow.holds Try.pinned (OpenSpec.ofChange tileAddsSpec)

/-- ITS FALSE NEIGHBOUR: 'it returns false'. Refute it at one input. -/
def tileAddsWrong : ChangeSpec := { name := "tileAdds", fn := fun _ => fun
  | [d1, d2] => { results := [.lit (.bool false)], args := [d1, d2] }
  | _ => none }
def TileAddsWrongFalsely : Prop := tileAddsRow.holds Try.pinned (OpenSpec.ofChange tileAddsWrong)

/-- 'wayfinderlaw16.TileReduces': WHATEVER THE INPUT: true; the input reads as it did. -/
def tileReducesSpec : ChangeSpec := { name := "tileReduces", fn := fun _ => fun
  | [d1, d2] => { results := [.lit (.bool true)], args := [d1, d2] }
  | _ => none }
def tileReducesRow : OpenClaim := { program := "ytgfjhidfpjmmnaa", sum := "c362ad127b4dd0f342352aceea04fbb2fd67252c831a9390582cca998f1af176", func := "wayfinder/wayfinderlaw16.TileReduces", spec := "tileReduces", unfollowed := true, recurses := true, plainKeys := false, apart := false }
def TileReducesSaid : Prop := tileReducesRow.holds Try.pinned (OpenSpec.ofChange tileReducesSpec)

/-- ITS FALSE NEIGHBOUR: 'it returns false'. Refute it at one input. -/
def tileReducesWrong : ChangeSpec := { name := "tileReduces", fn := fun _ => fun
  | [d1, d2] => { results := [.lit (.bool false)], args := [d1, d2] }
  | _ => none }
def TileReducesWrongFalsely : Prop := tileReducesRow.holds Try.pinned (OpenSpec.ofChange tileReducesWrong)

/-- 'wayfinderlaw16.TileLevels': WHATEVER THE INPUT: true; the input reads as it did. -/
def tileLevelsSpec : ChangeSpec := { name := "tileLevels", fn := fun _ => fun
  | [d1, d2, d3] => { results := [.lit (.bool true)], args := [d1, d2, d3] }
  | _ => none }
def tileLevelsRow : OpenClaim := { program := "ytgfjhidfpjmmnaa", sum := "c362ad127b4dd0f342352aceea04fbb2fd67252c831a9390582cca998f1af176", func := "wayfinder/wayfinderlaw16.TileLevels", spec := "tileLevels", unfollowed := true, recurses := true, plainKeys := false, apart := false }
def TileLevelsSaid : Prop := tileLevelsRow.holds Try.pinned (OpenSpec.ofChange tileLevelsSpec)

/-- ITS FALSE NEIGHBOUR: 'it returns false'. Refute it at one input. -/
def tileLevelsWrong : ChangeSpec := { name := "tileLevels", fn := fun _ => fun
  | [d1, d2, d3] => { results := [.lit (.bool false)], args := [d1, d2, d3] }
  | _ => none }
def TileLevelsWrongFalsely : Prop := tileLevelsRow.holds Try.pinned (OpenSpec.ofChange tileLevelsWrong)

/-- 'wayfinderlaw16.TileGets': WHATEVER THE INPUT: true; the input reads as it did. -/
def tileGetsSpec : ChangeSpec := { name := "tileGets", fn := fun _ => fun
  | [d1, d2] => { results := [.lit (.bool true)], args := [d1, d2] }
  | _ => none }
def tileGetsRow : OpenClaim := { program := "ytgfjhidfpjmmnaa", sum := "c362ad127b4dd0f342352aceea04fbb2fd67252c831a9390582cca998f1af176", func := "wayfinder/wayfinderlaw16.TileGets", spec := "tileGets", unfollowed := true, recurses := true, plainKeys := false, apart := false }
def TileGetsSaid : Prop := tileGetsRow.holds Try.pinned (OpenSpec.ofChange tileGetsSpec)

/-- ITS FALSE NEIGHBOUR: 'it returns false'. Refute it at one input. -/
def tileGetsWrong : ChangeSpec := { name := "tileGets", fn := fun _ => fun
  | [d1, d2] => { results := [.lit (.bool false)], args := [d1, d2] }
  | _ => none }
def TileGetsWrongFalsely : Prop := tileGetsRow.holds Try.pinned (OpenSpec.ofChange tileGetsWrong)

/-- 'wayfinderlaw16.TileApart': WHATEVER THE INPUT: true; the input reads as it did. -/
def tileApartSpec : ChangeSpec := { name := "tileApart", fn := fun _ => fun
  | [d1, d2] => { results := [.lit (.bool true)], args := [d1, d2] }
  | _ => none }
def tileApartRow : OpenClaim := { program := "ytgfjhidfpjmmnaa", sum := "c362ad127b4dd0f342352aceea04fbb2fd67252c831a9390582cca998f1af176", func := "wayfinder/wayfinderlaw16.TileApart", spec := "tileApart", unfollowed := true, recurses := true, plainKeys := false, apart := false }
def TileApartSaid : Prop := tileApartRow.holds Try.pinned (OpenSpec.ofChange tileApartSpec)

/-- ITS FALSE NEIGHBOUR: 'it returns false'. Refute it at one input. -/
def tileApartWrong : ChangeSpec := { name := "tileApart", fn := fun _ => fun
  | [d1, d2] => { results := [.lit (.bool false)], args := [d1, d2] }
  | _ => none }
def TileApartWrongFalsely : Prop := tileApartRow.holds Try.pinned (OpenSpec.ofChange tileApartWrong)

/- THE SECOND FORM. 'bulk': how many values and letters a reading holds, each counted each time it is reached (what is shared counts as often as it is met; a slice's spare places count too). A statement '..UptoSaid' is the law's where the arguments, and the package variables that the reading takes, are together of bulk at most 1048576: NARROWER than '..Said'. Prove '..Said' where nothing that the law and all that it calls make is longer than what came in: it says more and counts as full. Else prove '..UptoSaid'. A law counts once. -/
mutual
def uptoBulk {H : Type} : DataW H → Nat
  | .lit (.string bytes) => bytes.length + 1
  | .lit _ => 1
  | .nil => 1
  | .ptr d => uptoBulk d + 1
  | .slice elems spare => uptoBulkAll elems + uptoBulkAll spare + 1
  | .agg parts => uptoBulkAll parts + 1
  | .iface _ d => uptoBulk d + 1
  | .map entries => uptoBulkEntries entries + 1
  | .held _ => 1
def uptoBulkAll {H : Type} : List (DataW H) → Nat
  | [] => 0
  | d :: r => uptoBulk d + uptoBulkAll r
def uptoBulkEntries {H : Type} : List (Lit × DataW H) → Nat
  | [] => 0
  | x :: r => uptoBulkEntry x + uptoBulkEntries r
def uptoBulkEntry {H : Type} : Lit × DataW H → Nat
  | (.string bytes, d) => bytes.length + uptoBulk d + 1
  | (_, d) => uptoBulk d + 1
 end
def uptoSmall : (H : Type) → List (DataW H) → Bool := fun _ ds => decide (uptoBulkAll ds ≤ 1048576)
def OpenSpec.upto (s : _root_.Go.ChangeSpec) : _root_.Go.OpenSpec := { _root_.Go.OpenSpec.ofChange s with cond := some uptoSmall }

/-- 'wayfinderlaw16.TilePacks', WHERE WHAT IT READS IS OF BULK AT MOST 1048576: true; the input reads as it did. -/
def tilePacksUptoRow : OpenClaim := { program := "ytgfjhidfpjmmnaa", sum := "c362ad127b4dd0f342352aceea04fbb2fd67252c831a9390582cca998f1af176", func := "wayfinder/wayfinderlaw16.TilePacks", spec := "tilePacks", unfollowed := true, recurses := true, plainKeys := false, apart := false, narrowed := true }
def TilePacksUptoSaid : Prop := tilePacksUptoRow.holds Try.pinned (OpenSpec.upto tilePacksSpec)

/-- 'wayfinderlaw16.TileUnpacks', WHERE WHAT IT READS IS OF BULK AT MOST 1048576: true; the input reads as it did. -/
def tileUnpacksUptoRow : OpenClaim := { program := "ytgfjhidfpjmmnaa", sum := "c362ad127b4dd0f342352aceea04fbb2fd67252c831a9390582cca998f1af176", func := "wayfinder/wayfinderlaw16.TileUnpacks", spec := "tileUnpacks", unfollowed := true, recurses := true, plainKeys := false, apart := false, narrowed := true }
def TileUnpacksUptoSaid : Prop := tileUnpacksUptoRow.holds Try.pinned (OpenSpec.upto tileUnpacksSpec)

/-- 'wayfinderlaw16.TileAdds', WHERE WHAT IT READS IS OF BULK AT MOST 1048576: true; the input reads as it did. -/
def tileAddsUptoRow : OpenClaim := { program := "ytgfjhidfpjmmnaa", sum := "c362ad127b4dd0f342352aceea04fbb2fd67252c831a9390582cca998f1af176", func := "wayfinder/wayfinderlaw16.TileAdds", spec := "tileAdds", unfollowed := true, recurses := true, plainKeys := false, apart := false, narrowed := true }
def TileAddsUptoSaid : Prop := tileAddsUptoRow.holds Try.pinned (OpenSpec.upto tileAddsSpec)

/-- 'wayfinderlaw16.TileReduces', WHERE WHAT IT READS IS OF BULK AT MOST 1048576: true; the input reads as it did. -/
def tileReducesUptoRow : OpenClaim := { program := "ytgfjhidfpjmmnaa", sum := "c362ad127b4dd0f342352aceea04fbb2fd67252c831a9390582cca998f1af176", func := "wayfinder/wayfinderlaw16.TileReduces", spec := "tileReduces", unfollowed := true, recurses := true, plainKeys := false, apart := false, narrowed := true }
def TileReducesUptoSaid : Prop := tileReducesUptoRow.holds Try.pinned (OpenSpec.upto tileReducesSpec)

/-- 'wayfinderlaw16.TileLevels', WHERE WHAT IT READS IS OF BULK AT MOST 1048576: true; the input reads as it did. -/
def tileLevelsUptoRow : OpenClaim := { program := "ytgfjhidfpjmmnaa", sum := "c362ad127b4dd0f342352aceea04fbb2fd67252c831a9390582cca998f1af176", func := "wayfinder/wayfinderlaw16.TileLevels", spec := "tileLevels", unfollowed := true, recurses := true, plainKeys := false, apart := false, narrowed := true }
def TileLevelsUptoSaid : Prop := tileLevelsUptoRow.holds Try.pinned (OpenSpec.upto tileLevelsSpec)

/-- 'wayfinderlaw16.TileGets', WHERE WHAT IT READS IS OF BULK AT MOST 1048576: true; the input reads as it did. -/
def tileGetsUptoRow : OpenClaim := { program := "ytgfjhidfpjmmnaa", sum := "c362ad127b4dd0f342352aceea04fbb2fd67252c831a9390582cca998f1af176", func := "wayfinder/wayfinderlaw16.TileGets", spec := "tileGets", unfollowed := true, recurses := true, plainKeys := false, apart := false, narrowed := true }
def TileGetsUptoSaid : Prop := tileGetsUptoRow.holds Try.pinned (OpenSpec.upto tileGetsSpec)

/-- 'wayfinderlaw16.TileApart', WHERE WHAT IT READS IS OF BULK AT MOST 1048576: true; the input reads as it did. -/
def tileApartUptoRow : OpenClaim := { program := "ytgfjhidfpjmmnaa", sum := "c362ad127b4dd0f342352aceea04fbb2fd67252c831a9390582cca998f1af176", func := "wayfinder/wayfinderlaw16.TileApart", spec := "tileApart", unfollowed := true, recurses := true, plainKeys := false, apart := false, narrowed := true }
def TileApartUptoSaid : Prop := tileApartUptoRow.holds Try.pinned (OpenSpec.upto tileApartSpec)

end Rows
end Go.Proofs.Ytgfjhidfpjmmnaa
