/- Plain laws of zonogons. Conditions: as each theorem states. -/
import Derived.Test.YtjfnbcifafmefaaVRef
import Derived.Test.YtjfnbcifafmefaaVApart
namespace Go.Proofs.Ytjfnbcifafmefaa
set_option linter.unusedSimpArgs false
set_option linter.unusedVariables false
open Go.RowKit
theorem dir_ok {x y : Int} {l : List Pt} {px py nx ny : Int} (h : hasB x y l px py = true) (h1 : within nx 65536 = true) (h2 : within ny 65536 = true) : nx * px + ny * py ≤ supI x y l nx ny := by
  obtain ⟨hv, -, -, hz⟩ := hasB_iff.1 h
  have := hz (nx, ny)
  unfold supI
  rw [hv, h1, h2]
  simp only [Bool.and_self, if_true]
  unfold dotP at this
  simp only [Int.mul_sub] at this
  omega
theorem apartB_iff {x y : Int} {l : List Pt} {x0 y0 x1 y1 : Int} : apartB x y l x0 y0 x1 y1 = true ↔ validB x y l = true ∧ far4 x0 y0 x1 y1 = true ∧ (x0 ≤ x1 ∧ y0 ≤ y1) ∧ ¬ inZ (l ++ [(x1 - x0, 0), (0, y1 - y0)]) (x0 + x1 - x, y0 + y1 - y) := by
  have hc := canonL_can (l ++ [(x1 - x0, 0), (0, y1 - y0)])
  have h2 := beyond_iff hc.sorted hc.ups (x0 + x1 - x, y0 + y1 - y)
  rw [inZ_canon] at h2
  unfold apartB
  simp only [Bool.and_eq_true, decide_eq_true_eq, ← h2, Bool.not_eq_false, and_assoc]
theorem meets_ok {x y : Int} {l : List Pt} {x0 y0 x1 y1 px py : Int} (h : hasB x y l (2 * px) (2 * py) = true) (hx : x0 ≤ px ∧ px ≤ x1) (hy : y0 ≤ py ∧ py ≤ y1) : apartB x y l x0 y0 x1 y1 = false := by
  cases ha : apartB x y l x0 y0 x1 y1 with
  | false => rfl
  | true =>
    exfalso
    obtain ⟨-, -, -, hn⟩ := apartB_iff.1 ha
    obtain ⟨-, -, -, hz⟩ := hasB_iff.1 h
    refine hn fun n => ?_
    have h1 := hz n
    rw [spr_app, spr_cons, spr_cons]
    have e : dotP n (x0 + x1 - x, y0 + y1 - y) = dotP n (2 * px - x, 2 * py - y) + (n.1 * (x0 + x1 - 2 * px) + n.2 * (y0 + y1 - 2 * py)) := by unfold dotP; simp only; grind
    have e1 : dotP n (x1 - x0, 0) = n.1 * (x1 - x0) := by unfold dotP; simp
    have e2 : dotP n (0, y1 - y0) = n.2 * (y1 - y0) := by unfold dotP; simp
    have key : ∀ a w d : Int, -w ≤ d → d ≤ w → a * d ≤ absI (a * w) := fun a w d k1 k2 => by
      rcases Int.le_total 0 a with k | k
      · have := Int.mul_le_mul_of_nonneg_left k2 k
        have := le_absI (a * w); omega
      · have := Int.mul_le_mul_of_nonneg_left (by omega : -d ≤ w) (by omega : 0 ≤ -a)
        rw [Int.neg_mul_neg, Int.neg_mul] at this
        have h3 := le_absI (-(a * w))
        rw [absI_neg] at h3
        omega
    have k1 := key n.1 (x1 - x0) (x0 + x1 - 2 * px) (by omega) (by omega)
    have k2 := key n.2 (y1 - y0) (y0 + y1 - 2 * py) (by omega) (by omega)
    rw [e, e1, e2]
    show _ ≤ spr n l + (absI (n.1 * (x1 - x0)) + (absI (n.2 * (y1 - y0)) + 0))
    omega
end Go.Proofs.Ytjfnbcifafmefaa
