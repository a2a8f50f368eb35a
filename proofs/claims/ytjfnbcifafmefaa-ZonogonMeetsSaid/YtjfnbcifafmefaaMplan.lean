/- Plain facts on plans (W, H, the list of the cells' values): valid plans, cells in a plan, squared distances. Conditions: none. -/
import Derived.Test.YtjfnbcifafmefaaBase
namespace Go.Proofs.Ytjfnbcifafmefaa
set_option linter.unusedSimpArgs false
set_option linter.unusedVariables false
open Go.RowKit

def vldB (W H : Int) (xs : List Int) : Bool := decide (1 ≤ W ∧ W ≤ 64 ∧ 1 ≤ H ∧ H ≤ 64 ∧ (xs.length : Int) = W * H ∧ ∀ v ∈ xs, v ≤ 2)
def inB (W H x y : Int) : Bool := decide (0 ≤ x ∧ x < W ∧ 0 ≤ y ∧ y < H)
def atI (W H : Int) (xs : List Int) (x y : Int) : Int := if inB W H x y then gi xs (y * W + x).toNat else 2
def freeB (W H : Int) (xs : List Int) (x y : Int) : Bool := atI W H xs x y == 1
def farI (ax ay bx by_ : Int) : Int := (ax - bx) * (ax - bx) + (ay - by_) * (ay - by_)

structure Vld (W H : Int) (xs : List Int) : Prop where
  w0 : 1 ≤ W
  w1 : W ≤ 64
  h0 : 1 ≤ H
  h1 : H ≤ 64
  len : (xs.length : Int) = W * H
  le : ∀ v ∈ xs, v ≤ 2
theorem vld_iff {W H : Int} {xs : List Int} : vldB W H xs = true ↔ Vld W H xs := by
  unfold vldB
  rw [decide_eq_true_iff]
  exact ⟨fun ⟨a, b, c, d, e, f⟩ => ⟨a, b, c, d, e, f⟩, fun ⟨a, b, c, d, e, f⟩ => ⟨a, b, c, d, e, f⟩⟩
theorem vld_false {W H : Int} {xs : List Int} : vldB W H xs = false ↔ ¬ Vld W H xs := by
  rw [← vld_iff]; simp
theorem inB_iff {W H x y : Int} : inB W H x y = true ↔ 0 ≤ x ∧ x < W ∧ 0 ≤ y ∧ y < H := by
  unfold inB; rw [decide_eq_true_iff]
theorem inB_false {W H x y : Int} : inB W H x y = false ↔ ¬ (0 ≤ x ∧ x < W ∧ 0 ≤ y ∧ y < H) := by
  unfold inB; rw [decide_eq_false_iff_not]

theorem mul_le_64 {a b : Int} (h0 : 0 ≤ a) (h1 : a ≤ 64) (h2 : 0 ≤ b) (h3 : b ≤ 64) : 0 ≤ a * b ∧ a * b ≤ 4096 :=
  ⟨Int.mul_nonneg h0 h2, Int.le_trans (Int.mul_le_mul h1 h3 h2 (by omega)) (by omega)⟩
theorem Vld.pos {W H : Int} {xs : List Int} (h : Vld W H xs) : 1 ≤ W * H ∧ W * H ≤ 4096 ∧ 0 < xs.length ∧ xs.length ≤ 4096 := by
  have h1 : 1 * 1 ≤ W * H := Int.mul_le_mul h.w0 h.h0 (by omega) (by have := h.w0; omega)
  have h2 := mul_le_64 (a := W) (b := H) (by have := h.w0; omega) h.w1 (by have := h.h0; omega) h.h1
  have h3 := h.len
  omega
/-- The number of a cell. -/
theorem idx_bd {W H x y : Int} (h : inB W H x y = true) : 0 ≤ y * W ∧ 0 ≤ y * W + x ∧ y * W + x < W * H := by
  obtain ⟨a, b, c, d⟩ := inB_iff.1 h
  have h1 : 0 ≤ y * W := Int.mul_nonneg c (by omega)
  have h2 : (y + 1) * W ≤ H * W := Int.mul_le_mul_of_nonneg_right (by omega) (by omega)
  rw [Int.add_mul, Int.one_mul] at h2
  rw [Int.mul_comm W H]
  omega
theorem Vld.idx {W H x y : Int} {xs : List Int} (hv : Vld W H xs) (h : inB W H x y = true) : 0 ≤ y * W ∧ y * W ≤ 4096 ∧ 0 ≤ y * W + x ∧ y * W + x < W * H ∧ (y * W + x).toNat < xs.length ∧ 0 ≤ x ∧ x < 64 ∧ 0 ≤ y ∧ y < 64 := by
  have h1 := idx_bd h
  have h2 := hv.pos
  have h3 := hv.len
  obtain ⟨a, b, c, d⟩ := inB_iff.1 h
  have := hv.w1
  have := hv.h1
  omega
theorem sq_nonneg (a : Int) : 0 ≤ a * a := by
  rcases Int.le_total 0 a with h | h
  · exact Int.mul_nonneg h h
  · exact Int.mul_nonneg_of_nonpos_of_nonpos h h
theorem sq_le {a b : Int} (h0 : -b ≤ a) (h1 : a ≤ b) : a * a ≤ b * b := by
  have h : 0 ≤ (b - a) * (b + a) := Int.mul_nonneg (by omega) (by omega)
  have e : (b - a) * (b + a) = b * b - a * a := by
    rw [Int.sub_mul, Int.mul_add, Int.mul_add, Int.mul_comm a b]; omega
  omega
theorem sq_bd {a b : Int} (h0 : -b ≤ a) (h1 : a ≤ b) : 0 ≤ a * a ∧ a * a ≤ b * b := ⟨sq_nonneg a, sq_le h0 h1⟩
theorem farI_nonneg (ax ay bx by_ : Int) : 0 ≤ farI ax ay bx by_ := by
  have := sq_nonneg (ax - bx)
  have := sq_nonneg (ay - by_)
  unfold farI; omega
theorem farI_le {ax ay bx by_ d : Int} (h : -d ≤ ax - bx ∧ ax - bx ≤ d ∧ -d ≤ ay - by_ ∧ ay - by_ ≤ d) : farI ax ay bx by_ ≤ d * d + d * d := by
  have := sq_le (a := ax - bx) (b := d) h.1 h.2.1
  have := sq_le (a := ay - by_) (b := d) h.2.2.1 h.2.2.2
  unfold farI; omega
end Go.Proofs.Ytjfnbcifafmefaa
