/- Plain facts: the columns' gaps. Conditions: none. -/
import Derived.Test.YtpanbblbcnmadaaBase2
import Derived.Test.YtpanbblbcnmadaaMplan
namespace Go.Proofs.Ytpanbblbcnmadaa
open Go.RowKit

/-- The place of cell (x, y). -/
def ix (W : Int) (y x : Nat) : Nat := ((y : Int) * W + (x : Int)).toNat
theorem ix_cast {W : Int} {y x : Nat} (hW : 0 ≤ W) : (ix W y x : Int) = (y : Int) * W + x := by
  have : 0 ≤ (y : Int) * W := Int.mul_nonneg (by omega) hW
  unfold ix; omega
theorem ix_inj {W : Int} {y x y' x' : Nat} (hx : (x : Int) < W) (hx' : (x' : Int) < W) (h : ix W y x = ix W y' x') : y = y' ∧ x = x' := by
  have h1 : (ix W y x : Int) = ix W y' x' := by rw [h]
  rw [ix_cast (by omega), ix_cast (by omega)] at h1
  have key : ∀ a b : Nat, a < b → (a : Int) * W + W ≤ (b : Int) * W := fun a b hab => by
    have : ((a : Int) + 1) * W ≤ (b : Int) * W := Int.mul_le_mul_of_nonneg_right (by omega) (by omega)
    rwa [Int.add_mul, Int.one_mul] at this
  rcases Nat.lt_trichotomy y y' with hlt | rfl | hlt
  · have := key _ _ hlt; omega
  · exact ⟨rfl, by omega⟩
  · have := key _ _ hlt; omega
theorem ix_lt {W H : Int} {y x : Nat} (hx : (x : Int) < W) (hy : (y : Int) < H) : 0 ≤ (y : Int) * W ∧ (y : Int) * W + x < W * H ∧ ((ix W y x : Nat) : Int) < W * H := by
  have h1 : 0 ≤ (y : Int) * W := Int.mul_nonneg (by omega) (by omega)
  have h2 : ((y : Int) + 1) * W ≤ H * W := Int.mul_le_mul_of_nonneg_right (by omega) (by omega)
  rw [Int.add_mul, Int.one_mul] at h2
  rw [ix_cast (by omega), Int.mul_comm W H]
  omega
/-- Every place is that of a cell. -/
theorem ix_ex {W H : Int} {n j : Nat} (hW : 1 ≤ W) (hn : (n : Int) = W * H) (hj : j < n) : ∃ y x : Nat, (x : Int) < W ∧ (y : Int) < H ∧ j = ix W y x := by
  have hm := Int.emod_nonneg (j : Int) (show W ≠ 0 by omega)
  have hl := Int.emod_lt_of_pos (j : Int) (show 0 < W by omega)
  have hd : 0 ≤ (j : Int) / W := Int.ediv_nonneg (by omega) (by omega)
  have hdm := Int.mul_ediv_add_emod (j : Int) W
  have hlt : (j : Int) / W < H := Int.ediv_lt_of_lt_mul (by omega) (by rw [Int.mul_comm H W]; omega)
  refine ⟨((j : Int) / W).toNat, ((j : Int) % W).toNat, by omega, by omega, ?_⟩
  unfold ix
  rw [Int.toNat_of_nonneg hd, Int.toNat_of_nonneg hm, Int.mul_comm]
  omega

def cellv (W : Int) (xs : List Int) (y x : Nat) : Int := gi xs (ix W y x)
/-- The gap downward from the top edge, behind k cells of column x. -/
def fwd (W : Int) (xs : List Int) (x : Nat) : Nat → Int
  | 0 => 0
  | k + 1 => if cellv W xs k x = 1 then fwd W xs x k + 1 else 0
/-- The gap upward from the bottom edge, behind j cells of column x. -/
def bwd (W : Int) (h : Nat) (xs : List Int) (x : Nat) : Nat → Int
  | 0 => 0
  | j + 1 => if cellv W xs (h - 1 - j) x = 1 then bwd W h xs x j + 1 else 0
theorem fwd_bd (W : Int) (xs : List Int) (x k : Nat) : 0 ≤ fwd W xs x k ∧ fwd W xs x k ≤ k := by
  induction k with
  | zero => simp [fwd]
  | succ k ih => unfold fwd; split <;> omega
theorem bwd_bd (W : Int) (h : Nat) (xs : List Int) (x k : Nat) : 0 ≤ bwd W h xs x k ∧ bwd W h xs x k ≤ k := by
  induction k with
  | zero => simp [bwd]
  | succ k ih => unfold bwd; split <;> omega
/-- The gap of cell (x, y). -/
def colg (W : Int) (h : Nat) (xs : List Int) (y x : Nat) : Int := min (fwd W xs x (y + 1)) (bwd W h xs x (h - y))
/-- Columns before x are done. -/
def Done (W : Int) (h : Nat) (xs arr : List Int) (x : Nat) : Prop := ∀ y x' : Nat, x' < x → y < h → gi arr (ix W y x') = colg W h xs y x'
def Down (W : Int) (h : Nat) (xs arr : List Int) (x k : Nat) : Prop := Done W h xs arr x ∧ ∀ y, y < k → gi arr (ix W y x) = fwd W xs x (y + 1)
def Up (W : Int) (h : Nat) (xs arr : List Int) (x j : Nat) : Prop := Done W h xs arr x ∧ ∀ y, y < h → gi arr (ix W y x) = if h - j ≤ y then colg W h xs y x else fwd W xs x (y + 1)
section
variable {W : Int} {h n : Nat} {xs arr : List Int} {x k j : Nat}
theorem Down.zero (hd : Done W h xs arr x) : Down W h xs arr x 0 := ⟨hd, fun y hy => absurd hy (by omega)⟩
theorem Down.step (hd : Down W h xs arr x k) (hx : (x : Int) < W) (hi : ix W k x < arr.length) (v : Int) (hv : v = fwd W xs x (k + 1)) : Down W h xs (arr.set (ix W k x) v) x (k + 1) := by
  refine ⟨fun y x' hx' hy => ?_, fun y hy => ?_⟩
  · rw [gi_set hi, if_neg (fun e => by have := ix_inj (by omega) hx e; omega)]
    exact hd.1 y x' hx' hy
  · rw [gi_set hi]
    by_cases e : y = k
    · subst e; rw [if_pos rfl, hv]
    · rw [if_neg (fun e' => e (ix_inj hx hx e').1)]
      exact hd.2 y (by omega)
theorem Up.zero (hd : Down W h xs arr x h) : Up W h xs arr x 0 := ⟨hd.1, fun y hy => by rw [if_neg (by omega)]; exact hd.2 y hy⟩
theorem Up.at_ (hd : Up W h xs arr x j) (hj : j < h) : gi arr (ix W (h - 1 - j) x) = fwd W xs x (h - 1 - j + 1) := by
  rw [hd.2 _ (by omega), if_neg (by omega)]
theorem Up.step (hd : Up W h xs arr x j) (hx : (x : Int) < W) (hj : j < h) (hi : ix W (h - 1 - j) x < arr.length) (v : Int) (hv : v = colg W h xs (h - 1 - j) x) : Up W h xs (arr.set (ix W (h - 1 - j) x) v) x (j + 1) := by
  refine ⟨fun y x' hx' hy => ?_, fun y hy => ?_⟩
  · rw [gi_set hi, if_neg (fun e => by have := ix_inj (by omega) hx e; omega)]
    exact hd.1 y x' hx' hy
  · rw [gi_set hi]
    by_cases e : y = h - 1 - j
    · subst e; rw [if_pos rfl, if_pos (by omega), hv]
    · rw [if_neg (fun e' => e (ix_inj hx hx e').1), hd.2 y hy]
      by_cases e2 : h - j ≤ y
      · rw [if_pos e2, if_pos (by omega)]
      · rw [if_neg e2, if_neg (by omega)]
theorem Up.done (hd : Up W h xs arr x h) : Done W h xs arr (x + 1) := fun y x' hx' hy => by
  by_cases e : x' = x
  · subst e; rw [hd.2 y hy, if_pos (by omega)]
  · exact hd.1 y x' (by omega) hy
theorem colg_at (hj : j < h) : colg W h xs (h - 1 - j) x = min (fwd W xs x (h - 1 - j + 1)) (bwd W h xs x (j + 1)) := by
  unfold colg; rw [show h - (h - 1 - j) = j + 1 by omega]
end
end Go.Proofs.Ytpanbblbcnmadaa
