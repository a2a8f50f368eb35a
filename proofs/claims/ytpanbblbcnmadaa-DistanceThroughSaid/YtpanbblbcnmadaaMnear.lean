/- Plain facts: the search for the nearest cell that is not free, row by row. Conditions: none. -/
import Derived.Test.YtpanbblbcnmadaaMplan
namespace Go.Proofs.Ytpanbblbcnmadaa
open Go.RowKit

def stepN (W H : Int) (xs : List Int) (cx cy : Int) (s : Int × Int × Int) (x y : Int) : Int × Int × Int :=
  if freeB W H xs x y then s else if s.2.2 < 0 ∨ farI cx cy x y < s.2.2 then (x, y, farI cx cy x y) else s
def rowN (W H : Int) (xs : List Int) (cx cy : Int) (s : Int × Int × Int) (y : Int) (k : Nat) : Int × Int × Int :=
  (List.range k).foldl (fun s (i : Nat) => stepN W H xs cx cy s ((i : Int) - 1) y) s
def gridN (W H : Int) (xs : List Int) (cx cy : Int) (k : Nat) : Int × Int × Int :=
  (List.range k).foldl (fun s (j : Nat) => rowN W H xs cx cy s ((j : Int) - 1) (W + 2).toNat) (0, 0, -1)
def nearI (W H : Int) (xs : List Int) (cx cy : Int) : Int × Int × Int := gridN W H xs cx cy (H + 2).toNat
theorem rowN_succ (W H : Int) (xs : List Int) (cx cy : Int) (s : Int × Int × Int) (y : Int) (k : Nat) :
    rowN W H xs cx cy s y (k + 1) = stepN W H xs cx cy (rowN W H xs cx cy s y k) ((k : Int) - 1) y := by
  simp [rowN, List.range_succ]
theorem gridN_succ (W H : Int) (xs : List Int) (cx cy : Int) (k : Nat) :
    gridN W H xs cx cy (k + 1) = rowN W H xs cx cy (gridN W H xs cx cy k) ((k : Int) - 1) (W + 2).toNat := by
  simp [gridN, List.range_succ]
end Go.Proofs.Ytpanbblbcnmadaa
