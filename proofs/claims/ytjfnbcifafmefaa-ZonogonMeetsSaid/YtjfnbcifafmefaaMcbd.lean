/- Bounds on the corners of any zonogon. Conditions: as each theorem states. -/
import Derived.Test.YtjfnbcifafmefaaMcorn
import Derived.Test.YtjfnbcifafmefaaVCor
namespace Go.Proofs.Ytjfnbcifafmefaa
set_option linter.unusedSimpArgs false
set_option linter.unusedVariables false
open Go.RowKit
theorem spr_axis {n : Pt} (hn : n = (1, 0) ∨ n = (0, 1)) : ∀ l : List Pt, (∀ e ∈ l, Bd 65536 e) → spr n l ≤ l.length * 65536
  | [], _ => by simp [spr]
  | g :: l, h => by
    have ih := spr_axis hn l fun e he => h e (by simp [he])
    have hg := h g (by simp)
    have : absI (dotP n g) ≤ 65536 := by
      rw [absI_le]
      unfold Bd at hg
      rcases hn with rfl | rfl <;> (unfold dotP; simp only; omega)
    rw [spr_cons, List.length_cons, Int.natCast_add]
    simp only [Int.natCast_one]
    omega
theorem in_bd {x y : Int} {l : List Pt} (hv : validB x y l = true) {p : Pt} (h : inZ l (psub p (x, y))) : Bd 9437184 p := by
  obtain ⟨hl16, hlB⟩ := valid_bd hv
  have hxy := valid_bd3 hv
  have a1 := h.abs (1, 0)
  have a2 := h.abs (0, 1)
  rw [absI_le] at a1 a2
  have b1 := spr_axis (.inl rfl) l hlB
  have b2 := spr_axis (.inr rfl) l hlB
  have c : ((l.length : Nat) : Int) * 65536 ≤ 16 * 65536 := Int.mul_le_mul_of_nonneg_right (by omega) (by decide)
  unfold dotP psub at a1 a2
  simp only at a1 a2
  unfold Bd
  omega
theorem corR_bd {x y : Int} {l : List Pt} (hv : validB x y l = true) : ∀ e ∈ corR x y (canonL l), Bd 9437184 e := fun e he => by
  obtain ⟨i, hi, rfl⟩ := List.getElem_of_mem he
  refine in_bd hv (inZ_canon.1 ?_)
  rw [corR_len] at hi
  have := cor_in x y (canonL l) hi
  rwa [gp_eq (by rw [corR_len]; exact hi)] at this
theorem corV_pos {x y : Int} {l : List Pt} (hv : validB x y l = true) : corV x y l = corR x y (canonL l) := if_pos hv
/-- By the corners or by the directions: one. -/
theorem has_eq {x y : Int} {l : List Pt} (p : Pt) : inR (corR x y (canonL l)) p (corR x y (canonL l)).length = !(nrmls (canonL l)).any (beyond (canonL l) (p.1 - x, p.2 - y)) := by
  have hc := canonL_can l
  have h1 := in_iff (x := x) (y := y) hc.sorted hc.ups p
  have h2 := beyond_iff hc.sorted hc.ups (psub p (x, y))
  have e : psub p (x, y) = (p.1 - x, p.2 - y) := rfl
  rw [e] at h1 h2
  rw [Bool.eq_iff_iff, h1, ← h2]
  simp
theorem hasB_iff {x y : Int} {l : List Pt} {x2 y2 : Int} : hasB x y l x2 y2 = true ↔ validB x y l = true ∧ within x2 16777216 = true ∧ within y2 16777216 = true ∧ inZ l (x2 - x, y2 - y) := by
  have hc := canonL_can l
  have h2 := beyond_iff hc.sorted hc.ups (x2 - x, y2 - y)
  rw [inZ_canon] at h2
  unfold hasB
  simp only [Bool.and_eq_true, Bool.not_eq_true', h2]
theorem ext0 {x y : Int} {l : List Pt} (hv : validB x y l = true) {p : Pt} (h : inZ l (psub p (x, y))) : within p.1 16777216 = true ∧ within p.2 16777216 = true := by
  have := in_bd hv h
  rw [within_iff, within_iff]
  unfold Bd at this; omega
end Go.Proofs.Ytjfnbcifafmefaa
