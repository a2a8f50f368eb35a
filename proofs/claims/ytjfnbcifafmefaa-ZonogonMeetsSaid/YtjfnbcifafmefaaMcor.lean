/- What the code of corners and of its users computes, as functions. Conditions: none. -/
import Derived.Test.YtjfnbcifafmefaaVHas
import Derived.Test.YtjfnbcifafmefaaVBnd
namespace Go.Proofs.Ytjfnbcifafmefaa
set_option linter.unusedSimpArgs false
set_option linter.unusedVariables false
open Go.RowKit
/-- The first corner. -/
def cor0 (x y : Int) (l : List Pt) : Nat → Pt
  | 0 => (x, y)
  | i + 1 => ((cor0 x y l i).1 - g1 l i, (cor0 x y l i).2 - g2 l i)
def sgp (s : Int) (l : List Pt) (p : Pt) : Nat → Pt
  | 0 => p
  | j + 1 => ((sgp s l p j).1 + 2 * s * g1 l j, (sgp s l p j).2 + 2 * s * g2 l j)
def sgo (s : Int) (l : List Pt) (p : Pt) (o : List Pt) : Nat → List Pt
  | 0 => o
  | j + 1 => sgo s l p o j ++ [((sgp s l p j).1 + 2 * s * g1 l j, (sgp s l p j).2 + 2 * s * g2 l j)]
def sgn (m : Nat) : Int := if m = 0 then 1 else -1
def pasP (l : List Pt) (p : Pt) : Nat → Pt
  | 0 => p
  | m + 1 => sgp (sgn m) l (pasP l p m) l.length
def pasO (l : List Pt) (p : Pt) : Nat → List Pt
  | 0 => [p]
  | m + 1 => sgo (sgn m) l (pasP l p m) (pasO l p m) l.length
/-- The corners, by the program. -/
def corP (x y : Int) (l : List Pt) : List Pt := let o := pasO l (cor0 x y l l.length) 2; if o.length = 1 then o else o.take (o.length - 1)
/-- The reference's steps. -/
def stp (l : List Pt) (i : Nat) : Pt := if l.length ≤ i then (-g1 l (i % l.length), -g2 l (i % l.length)) else (g1 l (i % l.length), g2 l (i % l.length))
def rcp (l : List Pt) (p : Pt) : Nat → Pt
  | 0 => p
  | i + 1 => ((rcp l p i).1 + 2 * (stp l i).1, (rcp l p i).2 + 2 * (stp l i).2)
def rco (l : List Pt) (p : Pt) : Nat → List Pt
  | 0 => [p]
  | i + 1 => rco l p i ++ [((rcp l p i).1 + 2 * (stp l i).1, (rcp l p i).2 + 2 * (stp l i).2)]
/-- The corners, by the reference. -/
def corR (x y : Int) (l : List Pt) : List Pt := rco l (cor0 x y l l.length) (2 * l.length - 1)
theorem rco_len (l : List Pt) (p : Pt) : ∀ i, (rco l p i).length = i + 1
  | 0 => rfl
  | i + 1 => by simp [rco, rco_len l p i]
theorem sgo_len (s : Int) (l : List Pt) (p : Pt) (o : List Pt) : ∀ i, (sgo s l p o i).length = o.length + i
  | 0 => rfl
  | i + 1 => by simp [sgo, sgo_len s l p o i]; omega
theorem cor0_bd {x y M A : Int} {l : List Pt} (hA : -A ≤ x ∧ x ≤ A ∧ -A ≤ y ∧ y ≤ A) (h : ∀ e ∈ l, Bd M e) : ∀ i, i ≤ l.length → Bd (A + i * M) (cor0 x y l i)
  | 0, _ => by unfold Bd cor0; simp only [Int.natCast_zero, Int.zero_mul]; omega
  | i + 1, hi => by
    have ih := cor0_bd hA h i (by omega)
    have hg := gpb h (i := i) (by omega)
    have e : (((i + 1 : Nat) : Int)) * M = i * M + M := by rw [Int.natCast_add, Int.add_mul]; simp
    unfold Bd at *
    simp only [cor0]
    rw [e]; omega
theorem stp_bd {M : Int} {l : List Pt} (h : ∀ e ∈ l, Bd M e) (h0 : 0 < l.length) (i : Nat) : Bd M (stp l i) := by
  have hg := gpb h (i := i % l.length) (Nat.mod_lt _ h0)
  unfold stp Bd
  split <;> (simp only; omega)
theorem rcp_bd {M A : Int} {l : List Pt} {p : Pt} (hA : Bd A p) (h : ∀ e ∈ l, Bd M e) (h0 : 0 < l.length) : ∀ i : Nat, Bd (A + (i : Int) * (2 * M)) (rcp l p i)
  | 0 => by unfold Bd rcp at *; simp only [Int.natCast_zero, Int.zero_mul]; omega
  | i + 1 => by
    have ih := rcp_bd hA h h0 i
    have hg := stp_bd h h0 i
    have e : (((i + 1 : Nat) : Int)) * (2 * M) = i * (2 * M) + 2 * M := by rw [Int.natCast_add, Int.add_mul]; simp
    unfold Bd at *
    simp only [rcp]
    rw [e]; omega
theorem sgp_bd {M A s : Int} {l : List Pt} {p : Pt} (hs : s = 1 ∨ s = -1) (hA : Bd A p) (h : ∀ e ∈ l, Bd M e) : ∀ i, i ≤ l.length → Bd (A + i * (2 * M)) (sgp s l p i)
  | 0, _ => by unfold Bd sgp at *; simp only [Int.natCast_zero, Int.zero_mul]; omega
  | i + 1, hi => by
    have ih := sgp_bd hs hA h i (by omega)
    have hg := gpb h (i := i) (by omega)
    have e : (((i + 1 : Nat) : Int)) * (2 * M) = i * (2 * M) + 2 * M := by rw [Int.natCast_add, Int.add_mul]; simp
    unfold Bd at *
    simp only [sgp]
    rw [e]
    rcases hs with rfl | rfl <;> omega
/-- A point passes the test of a side. -/
def inT (l : List Pt) (p : Pt) (i : Nat) : Bool :=
  !decide (crs (g1 l ((i + 1) % l.length) - g1 l i, g2 l ((i + 1) % l.length) - g2 l i) (p.1 - g1 l i, p.2 - g2 l i) < 0) &&
  !(decide ((l.length : Int) ≤ 2) && (crs (g1 l ((i + 1) % l.length) - g1 l i, g2 l ((i + 1) % l.length) - g2 l i) (p.1 - g1 l i, p.2 - g2 l i) != 0 ||
    (decide ((g1 l ((i + 1) % l.length) - g1 l i) * (p.1 - g1 l i) + (g2 l ((i + 1) % l.length) - g2 l i) * (p.2 - g2 l i) < 0) || ((l.length : Int) == 1 && !(p.1 == g1 l i && p.2 == g2 l i)))))
def inR (l : List Pt) (p : Pt) : Nat → Bool
  | 0 => true
  | i + 1 => inR l p i && inT l p i
theorem inR_false {l : List Pt} {p : Pt} {i : Nat} (h : inT l p i = false) : ∀ n, i < n → inR l p n = false
  | 0, hn => by omega
  | n + 1, hn => by
    by_cases e : i = n
    · subst e; simp [inR, h]
    · simp [inR, inR_false h n (by omega)]
/-- The greatest value among the first corners. -/
def supR (n : Pt) (l : List Pt) : Nat → Int
  | 0 => n.1 * g1 l 0 + n.2 * g2 l 0
  | i + 1 => if supR n l i < n.1 * g1 l i + n.2 * g2 l i then n.1 * g1 l i + n.2 * g2 l i else supR n l i
def shoe (l : List Pt) : Nat → Int
  | 0 => 0
  | i + 1 => shoe l i + crs (g1 l i - g1 l 0, g2 l i - g2 l 0) (g1 l ((i + 1) % l.length) - g1 l 0, g2 l ((i + 1) % l.length) - g2 l 0)
end Go.Proofs.Ytjfnbcifafmefaa
