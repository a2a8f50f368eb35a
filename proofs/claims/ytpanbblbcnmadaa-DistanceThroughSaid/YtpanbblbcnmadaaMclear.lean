/- Plain facts: a cell's number is great exactly if all near cells are free and none of them lies outside. Conditions: none. -/
import Derived.Test.YtpanbblbcnmadaaMclose
import Derived.Test.YtpanbblbcnmadaaWithin
import Derived.Test.YtpanbblbcnmadaaMinfl
namespace Go.Proofs.Ytpanbblbcnmadaa
open Go.RowKit

theorem mem_wgrid {W : Nat} {cx cy r2 : Int} {h : Nat} {a b : Int} : (a, b) ∈ wgrid W cx cy r2 h ↔ 0 ≤ a ∧ a < W ∧ 0 ≤ b ∧ b < h ∧ farI cx cy a b ≤ r2 := by
  unfold wgrid wrow
  simp only [List.mem_flatMap, List.mem_range, List.mem_map, List.mem_filter, decide_eq_true_eq, Prod.mk.injEq]
  constructor
  · rintro ⟨y, hy, x, ⟨hx, hf⟩, rfl, rfl⟩
    exact ⟨by omega, by omega, by omega, by omega, hf⟩
  · rintro ⟨h1, h2, h3, h4, h5⟩
    refine ⟨b.toNat, by omega, a.toNat, ⟨by omega, ?_⟩, by omega, by omega⟩
    rw [show ((a.toNat : Nat) : Int) = a by omega, show ((b.toNat : Nat) : Int) = b by omega]
    exact h5
def min4 (W H x y : Int) : Int := min (min (x + 1) (y + 1)) (min (W - x) (H - y))
theorem run_min4 {P : Program} (W H x y : Int) (ts : Array TypeId) (t : TypeId) (w : World) :
    (Builtin.min_ ts t #[.int .i64 (x + 1), .int .i64 (y + 1), .int .i64 (W - x), .int .i64 (H - y)]).run P w = .ok (.int .i64 (min4 W H x y)) w := by
  have e : min4 W H x y = if H - y < (if W - x < (if y + 1 < x + 1 then y + 1 else x + 1) then W - x else (if y + 1 < x + 1 then y + 1 else x + 1)) then H - y else (if W - x < (if y + 1 < x + 1 then y + 1 else x + 1) then W - x else (if y + 1 < x + 1 then y + 1 else x + 1)) := by
    unfold min4; omega
  rw [e]
  simp [Builtin.min_, Builtin.min2]
theorem min4_bd {W H x y : Int} (h0 : 0 ≤ x) (h1 : x < W) (h2 : 0 ≤ y) (h3 : y < H) (h4 : W ≤ 64) : 0 ≤ min4 W H x y ∧ min4 W H x y ≤ 64 := by
  unfold min4; omega
def wclear (W H : Int) (xs : List Int) (cs : List (Int × Int)) : Bool := cs.all fun p => freeB W H xs p.1 p.2
theorem clear_iff {W H r2 : Int} {xs : List Int} {X Y : Nat} (hv : Vld W H xs) (hx : (X : Int) < W) (hy : (Y : Int) < H) :
    r2 < gi (sqs W H xs) (ix W Y X) ↔ wclear W H xs (wgrid W.toNat X Y r2 H.toNat) = true ∧ r2 < min4 W H X Y * min4 W H X Y := by
  obtain ⟨a, b, l, h1, h2⟩ := sqs_near hv hx hy
  rw [h2]
  obtain ⟨n1, ⟨n2, n3, n4, n5⟩, n6, n7, n8⟩ := near_spec hv.w0 hv.h0 h1
  have hW0 := hv.w0
  have hH0 := hv.h0
  have hm : (min4 W H X Y = (X : Int) + 1 ∨ min4 W H X Y = (Y : Int) + 1 ∨ min4 W H X Y = W - X ∨ min4 W H X Y = H - Y) ∧ min4 W H X Y ≤ (X : Int) + 1 ∧ min4 W H X Y ≤ (Y : Int) + 1 ∧ min4 W H X Y ≤ W - X ∧ min4 W H X Y ≤ H - Y ∧ 0 ≤ min4 W H X Y := by
    unfold min4; omega
  obtain ⟨hm1, hm2, hm3, hm4, hm5, hm6⟩ := hm
  generalize min4 W H X Y = m at *
  have sqle : ∀ d : Int, m ≤ d → m * m ≤ d * d := fun d hd => Int.mul_le_mul hd hd hm6 (by omega)
  have f1 := n8 (-1) Y (by omega) (by omega) (by omega) (by omega) (free_out (by omega))
  have f2 := n8 X (-1) (by omega) (by omega) (by omega) (by omega) (free_out (by omega))
  have f3 := n8 W Y (by omega) (by omega) (by omega) (by omega) (free_out (by omega))
  have f4 := n8 X H (by omega) (by omega) (by omega) (by omega) (free_out (by omega))
  unfold farI at f1 f2 f3 f4
  rw [show (X : Int) - -1 = X + 1 by omega, Int.sub_self, Int.mul_zero, Int.add_zero] at f1
  rw [show (Y : Int) - -1 = Y + 1 by omega, Int.sub_self, Int.mul_zero, Int.zero_add] at f2
  rw [show (X : Int) - W = -(W - X) by omega, Int.neg_mul_neg, Int.sub_self, Int.mul_zero, Int.add_zero] at f3
  rw [show (Y : Int) - H = -(H - Y) by omega, Int.neg_mul_neg, Int.sub_self, Int.mul_zero, Int.zero_add] at f4
  constructor
  · intro hl
    refine ⟨?_, ?_⟩
    · unfold wclear
      rw [List.all_eq_true]
      rintro ⟨u, v⟩ hu
      obtain ⟨u1, u2, u3, u4, u5⟩ := mem_wgrid.1 hu
      cases hf : freeB W H xs u v
      · have := n8 u v (by omega) (by omega) (by omega) (by omega) hf
        omega
      · rfl
    · rcases hm1 with e | e | e | e <;> rw [e] <;> omega
  · rintro ⟨hc, hs⟩
    unfold wclear at hc
    rw [List.all_eq_true] at hc
    apply Classical.byContradiction
    intro hl
    by_cases hin : 0 ≤ a ∧ a < W ∧ 0 ≤ b ∧ b < H
    · obtain ⟨i1, i2, i3, i4⟩ := hin
      have := hc (a, b) (mem_wgrid.2 ⟨i1, by omega, i3, by omega, by omega⟩)
      rw [n6] at this; cases this
    · have hge : m * m ≤ l := by
        rw [← n7]
        unfold farI
        have s1 := sq_nonneg ((X : Int) - a)
        have s2 := sq_nonneg ((Y : Int) - b)
        by_cases e1 : a = -1
        · subst e1
          have := sqle ((X : Int) - -1) (by omega)
          omega
        · by_cases e2 : a = W
          · subst e2
            have := sqle (a - X) (by omega)
            rw [show (X : Int) - a = -(a - X) by omega, Int.neg_mul_neg] at s1 ⊢
            omega
          · by_cases e3 : b = -1
            · subst e3
              have := sqle ((Y : Int) - -1) (by omega)
              omega
            · have e4 : b = H := by omega
              subst e4
              have := sqle (b - Y) (by omega)
              rw [show (Y : Int) - b = -(b - Y) by omega, Int.neg_mul_neg] at s2 ⊢
              omega
      omega
theorem infl_vld {W H r2 : Int} {xs : List Int} (hv : Vld W H xs) : Vld W H (infl r2 (sqs W H xs)) :=
  ⟨hv.w0, hv.w1, hv.h0, hv.h1, by rw [infl_len, sqs_len]; have := hv.pos; omega, fun v h => by
    unfold infl at h
    rw [List.mem_map] at h
    obtain ⟨d, _, rfl⟩ := h
    split <;> omega⟩
theorem infl_free {W H r2 : Int} {xs : List Int} {X Y : Nat} (hv : Vld W H xs) (hx : (X : Int) < W) (hy : (Y : Int) < H) :
    (atI W H (infl r2 (sqs W H xs)) X Y == 1) = decide (r2 < gi (sqs W H xs) (ix W Y X)) := by
  unfold atI
  rw [inB_iff.2 ⟨by omega, hx, by omega, hy⟩, if_pos rfl]
  have h1 : ((Y : Int) * W + X).toNat = ix W Y X := rfl
  have h2 : ix W Y X < (sqs W H xs).length := by rw [sqs_len]; have := (ix_lt hx hy).2.2; omega
  rw [h1, infl_at h2]
  by_cases h : r2 < gi (sqs W H xs) (ix W Y X)
  · simp [h]
  · simp [h]
end Go.Proofs.Ytpanbblbcnmadaa
