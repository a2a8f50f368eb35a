/- The directions in which a zonogon and a point are tried. Conditions: as each theorem states. -/
import Derived.Test.YtjfnbcifafmefaaVBnd
namespace Go.Proofs.Ytjfnbcifafmefaa
set_option linter.unusedSimpArgs false
set_option linter.unusedVariables false
open Go.RowKit
/-- The directions that are tried. -/
def nrmls (L : List Pt) : List Pt := [(1, 0), (0, 1)] ++ L.flatMap fun g => [(0 - g.2, g.1), g]
/-- A direction in which d is beyond the sum. -/
def beyond (L : List Pt) (d n : Pt) : Bool := decide (spr n L < absI (dotP n d))
def apartB (x y : Int) (l : List Pt) (x0 y0 x1 y1 : Int) : Bool :=
  validB x y l && (far4 x0 y0 x1 y1 && decide (x0 ≤ x1 ∧ y0 ≤ y1) && (nrmls (canonL (l ++ [(x1 - x0, 0), (0, y1 - y0)]))).any (beyond (canonL (l ++ [(x1 - x0, 0), (0, y1 - y0)])) (x0 + x1 - x, y0 + y1 - y)))
theorem nrmls_step {L : List Pt} {i : Nat} (h : i < L.length) : nrmls (L.take (i + 1)) = nrmls (L.take i) ++ [(0 - g2 L i, g1 L i), (g1 L i, g2 L i)] := by
  unfold nrmls
  rw [List.take_succ_eq_append_getElem h, List.flatMap_append, ← gp_eq h, List.append_assoc]
  simp [gp]
theorem prs_snoc2 {l : List Pt} {a b c d : Int} : prs l ++ [.int .i64 a, .int .i64 b, .int .i64 c, .int .i64 d] = prs (l ++ [(a, b), (c, d)]) := by rw [prs_append]; rfl
theorem nrmls_len (L : List Pt) : (nrmls L).length = 2 + 2 * L.length := by
  unfold nrmls
  rw [List.length_append]
  have : ∀ l : List Pt, (l.flatMap fun g => [(0 - g.2, g.1), g]).length = 2 * l.length := fun l => by
    induction l with
    | nil => rfl
    | cons g l ih => rw [List.flatMap_cons, List.length_append, ih]; simp; omega
  rw [this]; rfl
theorem nrmls_bd {M : Int} (hM : 1 ≤ M) {L : List Pt} (h : ∀ e ∈ L, Bd M e) : ∀ e ∈ nrmls L, Bd M e := fun e he => by
  unfold nrmls at he
  simp only [List.mem_append, List.mem_cons, List.not_mem_nil, or_false, List.mem_flatMap] at he
  rcases he with (rfl | rfl) | ⟨g, hg, rfl | rfl⟩
  · unfold Bd; simp only; omega
  · unfold Bd; simp only; omega
  · have := h g hg; unfold Bd at *; simp only; omega
  · exact h _ hg
theorem any_gp {p : Pt → Bool} {N : List Pt} {j : Nat} (hj : j < N.length) (h : p (gp N j) = true) : N.any p = true := List.any_eq_true.2 ⟨N[j], List.getElem_mem hj, by rw [← gp_eq hj]; exact h⟩
theorem nrmls_nil : nrmls [] = [(1, 0), (0, 1)] := rfl
theorem canon_bd16 {l : List Pt} (hl : l.length ≤ 16) (hB : ∀ e ∈ l, Bd 65536 e) : ∀ e ∈ canonL l, Bd 1048576 e := fun e he => by
  have := canonL_bd (M := 65536) (by decide) hB e he
  have h40 : ((l.length : Nat) : Int) * 65536 ≤ 16 * 65536 := Int.mul_le_mul_of_nonneg_right (by omega) (by decide)
  unfold Bd at *; omega
end Go.Proofs.Ytjfnbcifafmefaa
