/- Plain facts: the squared distances out of the columns' gaps. Conditions: none. -/
import Derived.Test.YtpanbblbcnmadaaMcols
namespace Go.Proofs.Ytpanbblbcnmadaa
open Go.RowKit

/-- The least of side*side and (x-u)^2 + g(u)^2 for u below k. -/
def bestTo (W : Int) (g : Nat → Int) (x : Nat) : Nat → Int
  | 0 => if W - (x : Int) < (x : Int) + 1 then (W - x) * (W - x) else ((x : Int) + 1) * ((x : Int) + 1)
  | u + 1 => if ((x : Int) - u) * ((x : Int) - u) + g u * g u < bestTo W g x u then ((x : Int) - u) * ((x : Int) - u) + g u * g u else bestTo W g x u
/-- The number of a cell. -/
def sqv (W : Int) (h : Nat) (xs : List Int) (y x : Nat) : Int := bestTo W (fun u => colg W h xs y u) x W.toNat
/-- Cells before (y, x), row by row, bear their numbers. -/
def SqDone (W : Int) (h : Nat) (xs arr : List Int) (y x : Nat) : Prop := ∀ y' x' : Nat, (x' : Int) < W → (y' < y ∨ y' = y ∧ x' < x) → gi arr (ix W y' x') = sqv W h xs y' x'
section
variable {W : Int} {h : Nat} {xs arr : List Int} {y x : Nat}
theorem SqDone.zero : SqDone W h xs arr 0 0 := fun y' x' _ hh => by omega
theorem SqDone.next (hs : SqDone W h xs arr y W.toNat) : SqDone W h xs arr (y + 1) 0 := fun y' x' hx hh => hs y' x' hx (by omega)
theorem SqDone.step (hs : SqDone W h xs arr y x) (hx : (x : Int) < W) (hi : ix W y x < arr.length) : SqDone W h xs (arr.set (ix W y x) (sqv W h xs y x)) y (x + 1) := fun y' x' hx' hh => by
  rw [gi_set hi]
  by_cases e : ix W y' x' = ix W y x
  · rw [if_pos e]
    obtain ⟨rfl, rfl⟩ := ix_inj hx' hx e
    rfl
  · rw [if_neg e]
    refine hs y' x' hx' ?_
    rcases hh with hh | ⟨rfl, hh⟩
    · exact .inl hh
    · refine .inr ⟨rfl, ?_⟩
      have : x' ≠ x := by rintro rfl; exact e rfl
      omega
theorem colg_bd {W : Int} {h : Nat} {xs : List Int} {y x : Nat} (hh : y < h) : 0 ≤ colg W h xs y x ∧ colg W h xs y x ≤ h := by
  have h1 := fwd_bd W xs x (y + 1)
  have h2 := bwd_bd W h xs x (h - y)
  unfold colg; omega
theorem bestTo_bd {W : Int} {g : Nat → Int} {x k : Nat} (hW : W ≤ 64) (hx : (x : Int) < W) : 0 ≤ bestTo W g x k ∧ bestTo W g x k ≤ 4096 := by
  induction k with
  | zero =>
    unfold bestTo
    have h1 := sq_bd (a := W - x) (b := 64) (by omega) (by omega)
    have h2 := sq_bd (a := (x : Int) + 1) (b := 64) (by omega) (by omega)
    split <;> omega
  | succ k ih =>
    unfold bestTo
    have h1 := sq_nonneg ((x : Int) - k)
    have h2 := sq_nonneg (g k)
    split <;> omega
end
/-- The list of all cells' numbers. -/
def sqs (W H : Int) (xs : List Int) : List Int := (List.range (W * H).toNat).map fun (j : Nat) => sqv W H.toNat xs ((j : Int) / W).toNat ((j : Int) % W).toNat
theorem sqs_len {W H : Int} {xs : List Int} : (sqs W H xs).length = (W * H).toNat := by simp [sqs]
theorem ix_divmod {W : Int} {y x : Nat} (hx : (x : Int) < W) : ((ix W y x : Nat) : Int) / W = y ∧ ((ix W y x : Nat) : Int) % W = x := by
  rw [ix_cast (by omega)]
  constructor
  · rw [Int.add_comm, Int.add_mul_ediv_right _ _ (by omega), Int.ediv_eq_zero_of_lt (by omega) hx]; omega
  · rw [Int.add_comm, Int.add_mul_emod_self_right, Int.emod_eq_of_lt (by omega) hx]
theorem sqs_at {W H : Int} {xs : List Int} {y x : Nat} (hx : (x : Int) < W) (hy : (y : Int) < H) : gi (sqs W H xs) (ix W y x) = sqv W H.toNat xs y x := by
  have h1 := (ix_lt hx hy).2.2
  have h2 : ix W y x < (W * H).toNat := by omega
  rw [gi_lt (by rw [sqs_len]; exact h2)]
  simp only [sqs, List.getElem_map, List.getElem_range, (ix_divmod hx).1, (ix_divmod hx).2, Int.toNat_natCast]
theorem SqDone.eq {W H : Int} {xs arr : List Int} (hW : 1 ≤ W) (hs : SqDone W H.toNat xs arr H.toNat 0) (hn : (arr.length : Int) = W * H) : arr = sqs W H xs := by
  refine gi_ext (by rw [sqs_len]; omega) fun j hj => ?_
  obtain ⟨y, x, hx, hy, rfl⟩ := ix_ex hW hn hj
  rw [sqs_at hx hy]
  exact hs y x hx (.inl (by omega))
end Go.Proofs.Ytpanbblbcnmadaa
