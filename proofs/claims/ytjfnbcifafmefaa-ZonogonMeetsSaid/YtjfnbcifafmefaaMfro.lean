/- Plain facts on frontier cells. Conditions: as each theorem states. -/
import Derived.Test.YtjfnbcifafmefaaMplan
import Derived.Test.YtjfnbcifafmefaaAmO
namespace Go.Proofs.Ytjfnbcifafmefaa
set_option linter.unusedSimpArgs false
set_option linter.unusedVariables false
open Go.RowKit
/-- A cell of the plan with the value v. -/
def isB (W H : Int) (xs : List Int) (x y v : Int) : Bool := inB W H x y && (gi xs (y * W + x).toNat == v)
/-- A frontier cell. -/
def froB (W H : Int) (xs : List Int) (x y : Int) : Bool := isB W H xs x y 1 && (isB W H xs (x + 1) y 0 || isB W H xs (x - 1) y 0 || isB W H xs x (y + 1) 0 || isB W H xs x (y - 1) 0)
/-- The cells with p in row y with x below j. -/
def rowP (p : Int → Int → Bool) (y : Nat) : Nat → List (Int × Int)
  | 0 => []
  | j + 1 => rowP p y j ++ if p j y = true then [((j : Int), (y : Int))] else []
/-- The cells with p in the rows below i, w cells each. -/
def gridP (p : Int → Int → Bool) (w : Nat) : Nat → List (Int × Int)
  | 0 => []
  | i + 1 => gridP p w i ++ rowP p i w
theorem rowP_len (p : Int → Int → Bool) (y : Nat) : ∀ j, (rowP p y j).length ≤ j
  | 0 => by simp [rowP]
  | j + 1 => by
    have := rowP_len p y j
    simp only [rowP, List.length_append]
    split <;> simp <;> omega
theorem gridP_len (p : Int → Int → Bool) (w : Nat) : ∀ i, (gridP p w i).length ≤ i * w
  | 0 => by simp [gridP]
  | i + 1 => by
    have := gridP_len p w i
    have := rowP_len p i w
    simp only [gridP, List.length_append]
    rw [Nat.add_mul]; omega
theorem rowP_mem (p : Int → Int → Bool) (y : Nat) : ∀ (j : Nat) (c : Int × Int), c ∈ rowP p y j ↔ (0 ≤ c.1 ∧ c.1 < j ∧ c.2 = y ∧ p c.1 c.2 = true)
  | 0, c => by simp [rowP]; omega
  | j + 1, c => by
    simp only [rowP, List.mem_append, rowP_mem p y j c]
    obtain ⟨a, b⟩ := c
    by_cases hp : p j y = true
    · rw [if_pos hp]
      simp only [List.mem_singleton, Prod.mk.injEq]
      constructor
      · rintro (⟨h1, h2, h3, h4⟩ | ⟨rfl, rfl⟩)
        · exact ⟨h1, by omega, h3, h4⟩
        · exact ⟨by omega, by omega, rfl, hp⟩
      · rintro ⟨h1, h2, h3, h4⟩
        by_cases hj : a = j
        · exact .inr ⟨hj, h3⟩
        · exact .inl ⟨h1, by omega, h3, h4⟩
    · rw [if_neg hp]
      simp only [List.not_mem_nil, or_false]
      constructor
      · rintro ⟨h1, h2, h3, h4⟩; exact ⟨h1, by omega, h3, h4⟩
      · rintro ⟨h1, h2, h3, h4⟩
        refine ⟨h1, ?_, h3, h4⟩
        have : a ≠ j := fun e => hp (by rw [← e, ← h3]; exact h4)
        show a < j
        have : a < ((j + 1 : Nat) : Int) := h2
        omega
theorem gridP_mem (p : Int → Int → Bool) (w : Nat) : ∀ (i : Nat) (c : Int × Int), c ∈ gridP p w i ↔ (0 ≤ c.1 ∧ c.1 < w ∧ 0 ≤ c.2 ∧ c.2 < i ∧ p c.1 c.2 = true)
  | 0, c => by simp [gridP]; omega
  | i + 1, c => by
    simp only [gridP, List.mem_append, gridP_mem p w i c, rowP_mem]
    constructor
    · rintro (⟨h1, h2, h3, h4, h5⟩ | ⟨h1, h2, h3, h4⟩)
      · exact ⟨h1, h2, h3, by omega, h5⟩
      · exact ⟨h1, h2, by omega, by omega, h4⟩
    · rintro ⟨h1, h2, h3, h4, h5⟩
      by_cases hi : c.2 = i
      · exact .inr ⟨h1, h2, hi, h5⟩
      · exact .inl ⟨h1, h2, h3, by omega, h5⟩
theorem gridP_congr {p q : Int → Int → Bool} (w i : Nat) (h : ∀ x y : Nat, x < w → y < i → p x y = q x y) : gridP p w i = gridP q w i := by
  have row : ∀ (y : Nat), y < i → ∀ j, j ≤ w → rowP p y j = rowP q y j := fun y hy j => by
    induction j with
    | zero => exact fun _ => rfl
    | succ j ih => intro hj; simp only [rowP, ih (by omega), h j y (by omega) hy]
  have gen : ∀ k, k ≤ i → gridP p w k = gridP q w k := fun k => by
    induction k with
    | zero => exact fun _ => rfl
    | succ k ih => intro hk; simp only [gridP, ih (by omega), row k (by omega) w (Nat.le_refl _)]
  exact gen i (Nat.le_refl _)
theorem prs_snoc {l : List (Int × Int)} {x y : Int} : prs l ++ [.int .i64 x, .int .i64 y] = prs (l ++ [(x, y)]) := by rw [prs_append]; rfl
/-- A slice that is appended to: none yet, or the whole of a block of its own. -/
def OutP (b : Nat) (s : AV) (X : ABlk) (l : List (Int × Int)) : Prop := (l = [] ∧ s = .sl none 0 (some 0) ∧ X = .dead) ∨ (0 < l.length ∧ s = .sl (some (b, 0)) l.length none ∧ X = .cells true 2 (prs l))
/-- What a function hands back that has made a list of pairs. -/
def retP (H : AHeap) (l : List (Int × Int)) : AV × AHeap := if l = [] then (.sl none 0 (some 0), H) else (.sl (some (H.length, 0)) l.length none, H ++ [.cells true 2 (prs l)])
theorem retP_nil {H : AHeap} : retP H [] = (.sl none 0 (some 0), H) := rfl
theorem retP_pos {H : AHeap} {l : List (Int × Int)} (h : 0 < l.length) : retP H l = (.sl (some (H.length, 0)) l.length none, H ++ [.cells true 2 (prs l)]) := by
  unfold retP; rw [if_neg (fun e => by rw [e] at h; simp at h)]
/-- The frontier cells of a plan. -/
def froL (W H : Int) (xs : List Int) : List (Int × Int) := gridP (froB W H xs) W.toNat H.toNat
theorem isB_at {W H : Int} {xs : List Int} {x y v : Int} (hv : v ≠ 2) : isB W H xs x y v = (atI W H xs x y == v) := by
  unfold isB atI
  cases h : inB W H x y
  · simp; exact fun e => hv e.symm
  · simp
end Go.Proofs.Ytjfnbcifafmefaa
