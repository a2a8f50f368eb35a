/- Plain facts on the cell with the least sum of squares. Conditions: as each theorem states. -/
import Derived.Test.YtloblgkjgcemoaaXSmall
namespace Go.Proofs.Ytloblgkjgcemoaa
open Go.RowKit
def sq2 (p c : Int × Int) : Int := (p.1 - c.1) * (p.1 - c.1) + (p.2 - c.2) * (p.2 - c.2)
def rsum : List (Int × Int) → Int × Int → Int
  | [], _ => 0
  | p :: r, c => sq2 p c + rsum r c
def sumX : List (Int × Int) → Int
  | [] => 0
  | p :: r => p.1 + sumX r
def sumY : List (Int × Int) → Int
  | [] => 0
  | p :: r => p.2 + sumY r
def sumS : List (Int × Int) → Int
  | [] => 0
  | p :: r => p.1 * p.1 + p.2 * p.2 + sumS r
def psum (l : List (Int × Int)) (c : Int × Int) : Int := l.length * (c.1 * c.1 + c.2 * c.2) - 2 * (c.1 * sumX l + c.2 * sumY l)
theorem rsum_eq (c : Int × Int) : ∀ l, rsum l c = psum l c + sumS l
  | [] => by simp [rsum, psum, sumS, sumX, sumY]
  | p :: r => by
    have ih := rsum_eq c r
    simp only [rsum, ih, psum, sumX, sumY, sumS, sq2, List.length_cons]
    rw [show ((r.length + 1 : Nat) : Int) = (r.length : Int) + 1 by omega]
    grind
def smallP (p : Int × Int) : Bool := decide (-16384 ≤ p.1) && decide (p.1 ≤ 16384) && (decide (-16384 ≤ p.2) && decide (p.2 ≤ 16384))
theorem smallP_iff {p : Int × Int} : smallP p = true ↔ -16384 ≤ p.1 ∧ p.1 ≤ 16384 ∧ -16384 ≤ p.2 ∧ p.2 ≤ 16384 := by
  simp [smallP]; omega
def gp (l : List (Int × Int)) (i : Nat) : Int × Int := (g1 l i, g2 l i)
theorem gp_eq {l : List (Int × Int)} {i : Nat} (h : i < l.length) : gp l i = l[i] := by
  simp [gp, g1, g2, List.getD_eq_getElem?_getD, h]
theorem small_at {l : List (Int × Int)} (hs : l.all smallP = true) {i : Nat} (h : i < l.length) : -16384 ≤ g1 l i ∧ g1 l i ≤ 16384 ∧ -16384 ≤ g2 l i ∧ g2 l i ≤ 16384 := by
  have := smallP_iff.1 (List.all_eq_true.1 hs l[i] (List.getElem_mem h))
  rw [← gp_eq h] at this
  exact this
theorem sq_nn (d : Int) : 0 ≤ d * d := by
  rcases Int.le_total 0 d with h | h
  · exact Int.mul_nonneg h h
  · exact Int.mul_nonneg_of_nonpos_of_nonpos h h
theorem dsq_bd {a b : Int} (h1 : -32768 ≤ a - b) (h2 : a - b ≤ 32768) : 0 ≤ (a - b) * (a - b) ∧ (a - b) * (a - b) ≤ 1073741824 := by
  generalize a - b = d at *
  refine ⟨sq_nn d, ?_⟩
  have h := Int.mul_nonneg (a := 32768 - d) (b := 32768 + d) (by omega) (by omega)
  grind
theorem take_snoc {α : Type} {l : List α} {i : Nat} (h : i < l.length) : l.take (i + 1) = l.take i ++ [l[i]] := List.take_succ_eq_append_getElem h
theorem rsum_app (c : Int × Int) : ∀ l m, rsum (l ++ m) c = rsum l c + rsum m c
  | [], m => by simp [rsum]
  | p :: r, m => by simp only [List.cons_append, rsum, rsum_app c r m]; omega
theorem rsum_step {l : List (Int × Int)} {i : Nat} (h : i < l.length) (c : Int × Int) : rsum (l.take (i + 1)) c = rsum (l.take i) c + sq2 (gp l i) c := by
  rw [take_snoc h, rsum_app, gp_eq h]; simp [rsum]
theorem mul_bd {a b A B : Int} (h1 : -A ≤ a) (h2 : a ≤ A) (h3 : -B ≤ b) (h4 : b ≤ B) : -(A * B) ≤ a * b ∧ a * b ≤ A * B := by
  have k1 := Int.mul_nonneg (a := A - a) (b := B - b) (by omega) (by omega)
  have k2 := Int.mul_nonneg (a := A + a) (b := B + b) (by omega) (by omega)
  have k3 := Int.mul_nonneg (a := A - a) (b := B + b) (by omega) (by omega)
  have k4 := Int.mul_nonneg (a := A + a) (b := B - b) (by omega) (by omega)
  constructor <;> grind
def ctrLt (l : List (Int × Int)) (a b : Int × Int) : Bool := decide (rsum l a < rsum l b) || (rsum l a == rsum l b && befB a b)
def bestK (l : List (Int × Int)) : Nat → Int × Int
  | 0 => gp l 0
  | k + 1 => if ctrLt l (gp l (k + 1)) (bestK l k) = true then gp l (k + 1) else bestK l k
theorem bestK_mem {l : List (Int × Int)} : ∀ {k : Nat}, k < l.length → bestK l k ∈ l
  | 0, h => by show gp l 0 ∈ l; rw [gp_eq h]; exact List.getElem_mem h
  | k + 1, h => by
    show (if _ then _ else _) ∈ l
    split
    · rw [gp_eq h]; exact List.getElem_mem h
    · exact bestK_mem (by omega)
theorem gp_small {l : List (Int × Int)} (hs : l.all smallP = true) {i : Nat} (h : i < l.length) : smallP (gp l i) = true := by
  rw [gp_eq h]; exact List.all_eq_true.1 hs _ (List.getElem_mem h)
theorem bestK_small {l : List (Int × Int)} (hs : l.all smallP = true) {k : Nat} (h : k < l.length) : smallP (bestK l k) = true := List.all_eq_true.1 hs _ (bestK_mem h)
/-- The cell that Center returns. -/
def ctrO (l : List (Int × Int)) : Option (Int × Int) := if l.length = 0 ∨ 4096 < l.length ∨ l.all smallP = false then none else some (bestK l (l.length - 1))
def ctrV (l : List (Int × Int)) : AV := match ctrO l with
  | none => .tup [.agg [.int .i64 0, .int .i64 0], .bool false]
  | some p => .tup [.agg [.int .i64 p.1, .int .i64 p.2], .bool true]
theorem ctrV_none {l : List (Int × Int)} (h : l.length = 0 ∨ 4096 < l.length ∨ l.all smallP = false) : ctrV l = .tup [.agg [.int .i64 0, .int .i64 0], .bool false] := by
  unfold ctrV ctrO; rw [if_pos h]
theorem ctrV_some {l : List (Int × Int)} (h1 : 0 < l.length) (h2 : l.length ≤ 4096) (h3 : l.all smallP = true) : ctrV l = .tup [.agg [.int .i64 (bestK l (l.length - 1)).1, .int .i64 (bestK l (l.length - 1)).2], .bool true] := by
  unfold ctrV ctrO; rw [if_neg (fun h => by rcases h with h | h | h; omega; omega; rw [h3] at h; cases h)]
theorem sums_bd {l : List (Int × Int)} (hs : l.all smallP = true) : -(l.length * 16384) ≤ sumX l ∧ sumX l ≤ l.length * 16384 ∧ -(l.length * 16384) ≤ sumY l ∧ sumY l ≤ l.length * 16384 := by
  induction l with
  | nil => simp [sumX, sumY]
  | cons p r ih =>
    simp only [List.all_cons, Bool.and_eq_true] at hs
    have ih := ih hs.2
    have a := smallP_iff.1 hs.1
    simp only [sumX, sumY, List.length_cons]
    omega
theorem sums_app : ∀ l m, sumX (l ++ m) = sumX l + sumX m ∧ sumY (l ++ m) = sumY l + sumY m
  | [], m => by simp [sumX, sumY]
  | p :: r, m => by
    have := sums_app r m
    simp only [List.cons_append, sumX, sumY, this.1, this.2]; omega
theorem sums_step {l : List (Int × Int)} {i : Nat} (h : i < l.length) : sumX (l.take (i + 1)) = sumX (l.take i) + g1 l i ∧ sumY (l.take (i + 1)) = sumY (l.take i) + g2 l i := by
  rw [take_snoc h, (sums_app _ _).1, (sums_app _ _).2, ← gp_eq h]
  simp [sumX, sumY, gp]
theorem small_step {l : List (Int × Int)} {i : Nat} (h : i < l.length) (hs : (l.take i).all smallP = true) (hp : smallP (gp l i) = true) : (l.take (i + 1)).all smallP = true := by
  rw [take_snoc h, List.all_append, hs, ← gp_eq h]; simp [hp]
theorem small_not {l : List (Int × Int)} {i : Nat} (h : i < l.length) (hp : smallP (gp l i) = false) : l.all smallP = false := by
  cases hh : l.all smallP
  · rfl
  · rw [gp_small hh h] at hp; cases hp
end Go.Proofs.Ytloblgkjgcemoaa
