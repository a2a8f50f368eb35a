/- Plain facts: if a cell becomes a wall, no number increases, and that of the cell is 0. Conditions: none. -/
import Derived.Test.YtpanbblbcnmadaaMsame
namespace Go.Proofs.Ytpanbblbcnmadaa
open Go.RowKit

section
variable {W H : Int} {xs : List Int}
theorem vld_set (hv : Vld W H xs) (k : Nat) : Vld W H (xs.set k 2) :=
  ⟨hv.w0, hv.w1, hv.h0, hv.h1, by rw [List.length_set]; exact hv.len, fun v h => by
    rcases List.mem_or_eq_of_mem_set h with h | h
    · exact hv.le v h
    · omega⟩
theorem free_set {k : Nat} (hk : k < xs.length) {x y : Int} (h : freeB W H (xs.set k 2) x y = true) : freeB W H xs x y = true := by
  unfold freeB atI at h ⊢
  by_cases hi : inB W H x y = true
  · rw [if_pos hi] at h ⊢
    rw [gi_set hk] at h
    by_cases e : (y * W + x).toNat = k
    · rw [if_pos e] at h; simp at h
    · rw [if_neg e] at h; exact h
  · rw [if_neg hi] at h; simp at h
theorem sqs_near (hv : Vld W H xs) {x y : Nat} (hx : (x : Int) < W) (hy : (y : Int) < H) : ∃ a b l, nearI W H xs x y = (a, b, l) ∧ gi (sqs W H xs) (ix W y x) = l := by
  obtain ⟨⟨a, b, l⟩, hq⟩ : ∃ p, nearI W H xs x y = p := ⟨_, rfl⟩
  exact ⟨a, b, l, hq, by rw [sqs_at hx hy]; exact sqv_near hv.w0 hx (H := H) (h := H.toNat) (by have := hv.h0; omega) (by omega) hq⟩
theorem sqs_nonneg (hv : Vld W H xs) {j : Nat} (hj : j < (sqs W H xs).length) : 0 ≤ gi (sqs W H xs) j := by
  have hp := hv.pos
  rw [sqs_len] at hj
  obtain ⟨y, x, hx, hy, rfl⟩ := ix_ex hv.w0 (show (((W * H).toNat : Nat) : Int) = W * H by omega) hj
  obtain ⟨a, b, l, h1, h2⟩ := sqs_near hv hx hy
  rw [h2]
  exact (near_spec hv.w0 hv.h0 h1).1
theorem sqs_close (hv : Vld W H xs) {k : Nat} (hk : k < xs.length) {j : Nat} (hj : j < (sqs W H xs).length) : gi (sqs W H (xs.set k 2)) j ≤ gi (sqs W H xs) j := by
  have hp := hv.pos
  rw [sqs_len] at hj
  obtain ⟨y, x, hx, hy, rfl⟩ := ix_ex hv.w0 (show (((W * H).toNat : Nat) : Int) = W * H by omega) hj
  obtain ⟨a, b, l, h1, h2⟩ := sqs_near hv hx hy
  obtain ⟨a', b', l', h1', h2'⟩ := sqs_near (vld_set hv k) hx hy
  rw [h2, h2']
  obtain ⟨_, ⟨m1, m2, m3, m4⟩, m5, m6, _⟩ := near_spec hv.w0 hv.h0 h1
  obtain ⟨_, _, _, _, m7⟩ := near_spec hv.w0 hv.h0 h1'
  rw [← m6]
  refine m7 a b m1 m2 m3 m4 ?_
  cases hf : freeB W H (xs.set k 2) a b
  · rfl
  · rw [free_set hk hf] at m5; cases m5
theorem sqs_zero (hv : Vld W H xs) {x y : Nat} (hx : (x : Int) < W) (hy : (y : Int) < H) : gi (sqs W H (xs.set (ix W y x) 2)) (ix W y x) = 0 := by
  have hp := hv.pos
  have hl := hv.len
  have hk : ix W y x < xs.length := by have := (ix_lt hx hy).2.2; omega
  obtain ⟨a', b', l', h1', h2'⟩ := sqs_near (vld_set hv (ix W y x)) hx hy
  rw [h2']
  obtain ⟨m0, _, _, _, m7⟩ := near_spec hv.w0 hv.h0 h1'
  have hf : freeB W H (xs.set (ix W y x) 2) x y = false := by
    unfold freeB atI
    rw [inB_iff.2 ⟨by omega, hx, by omega, hy⟩, if_pos rfl]
    have : ((y : Int) * W + x).toNat = ix W y x := rfl
    rw [this, gi_set hk, if_pos rfl]; rfl
  have := m7 x y (by omega) (by omega) (by omega) (by omega) hf
  have e : farI (x : Int) y x y = 0 := by unfold farI; simp
  omega
end
end Go.Proofs.Ytpanbblbcnmadaa
