/- Plain facts: cells joined by common sides over a set of cells; what a search that marks and lists cells has found. Conditions: none. -/
import Derived.Test.YtpanbblbcnmadaaBase
namespace Go.Proofs.Ytpanbblbcnmadaa
open Go.RowKit

/-- (c, d) is one of the four neighbours of (a, b). -/
def Nb (a b c d : Int) : Prop := c = a + 1 ∧ d = b ∨ c = a - 1 ∧ d = b ∨ c = a ∧ d = b + 1 ∨ c = a ∧ d = b - 1
/-- A way over cells of ok leads from (a, b) to (c, d). -/
inductive Reach (ok : Int → Int → Prop) (a b : Int) : Int → Int → Prop
  | start : ok a b → Reach ok a b a b
  | step {c d e f : Int} : Reach ok a b c d → Nb c d e f → ok e f → Reach ok a b e f
section
variable {ok ok' : Int → Int → Prop} {a b c d e f : Int}
theorem Nb.symm (h : Nb a b c d) : Nb c d a b := by unfold Nb at *; omega
theorem Reach.first (h : Reach ok a b c d) : ok a b := by
  induction h with
  | start h => exact h
  | step _ _ _ ih => exact ih
theorem Reach.last (h : Reach ok a b c d) : ok c d := by
  cases h with
  | start h => exact h
  | step _ _ h => exact h
theorem Reach.trans (h : Reach ok a b c d) (k : Reach ok c d e f) : Reach ok a b e f := by
  induction k with
  | start _ => exact h
  | step _ hn ho ih => exact .step ih hn ho
theorem Reach.symm (h : Reach ok a b c d) : Reach ok c d a b := by
  induction h with
  | start h => exact .start h
  | step h hn ho ih => exact (Reach.step (.start ho) hn.symm h.last).trans ih
theorem Reach.mono (h : Reach ok a b c d) (hm : ∀ x y, ok x y → ok' x y) : Reach ok' a b c d := by
  induction h with
  | start h => exact .start (hm _ _ h)
  | step _ hn ho ih => exact .step ih hn (hm _ _ ho)
/-- What the search keeps: all marked cells are reached, listed cells are marked, and the neighbours of a marked cell that is not listed are marked; the goal is not among the marked cells that are not listed. -/
structure Search (ok : Int → Int → Prop) (a b : Int) (gx gy : Int) (seen : Int → Int → Prop) (list : Int → Int → Prop) : Prop where
  start : seen a b
  reach : ∀ x y, seen x y → Reach ok a b x y
  listed : ∀ x y, list x y → seen x y
  closed : ∀ x y u v, seen x y → ¬ list x y → Nb x y u v → ok u v → seen u v
  goal : seen gx gy → list gx gy
theorem Search.none {gx gy : Int} {seen list : Int → Int → Prop} (h : Search ok a b gx gy seen list) (he : ∀ x y, ¬ list x y) : ¬ Reach ok a b gx gy := by
  intro hr
  have : ∀ x y, Reach ok a b x y → seen x y := by
    intro x y hxy
    induction hxy with
    | start _ => exact h.start
    | step _ hn ho ih => exact h.closed _ _ _ _ ih (he _ _) hn ho
  exact he _ _ (h.goal (this _ _ hr))
end
end Go.Proofs.Ytpanbblbcnmadaa
