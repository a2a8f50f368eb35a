/- Walks: what the small functions on plans return (sizes, valid plans, a cell in a plan, its value, squared distances). They only compute and make new memory. Conditions: as each theorem states. -/
import Derived.Test.YtpanbblbcnmadaaMplan
namespace Go.Proofs.Ytpanbblbcnmadaa
open Go.RowKit

/-- The largest number of a list, and of its first k. -/
def maxTo (xs : List Int) : Int := xs.tail.foldl max (xs.headD 0)
def maxUp (xs : List Int) (k : Nat) : Int := maxTo (xs.take k)
theorem maxUp_succ (xs : List Int) (k : Nat) (h1 : 1 ≤ k) (h : k < xs.length) : maxUp xs (k+1) = if maxUp xs k < gi xs k then gi xs k else maxUp xs k := by
  unfold maxUp maxTo gi
  cases xs with
  | nil => simp at h
  | cons x xs =>
    obtain ⟨k, rfl⟩ : ∃ j, k = j + 1 := ⟨k - 1, by omega⟩
    simp only [List.take_succ_cons, List.tail_cons, List.headD_cons, List.getD_cons_succ]
    have hk : k < xs.length := by simpa using h
    rw [List.take_add_one, List.getElem?_eq_getElem hk]
    simp only [Option.toList_some, List.foldl_append, List.foldl_cons, List.foldl_nil, List.getD_eq_getElem?_getD, List.getElem?_eq_getElem hk, Option.getD_some]
    omega
theorem foldl_max_le (xs : List Int) : ∀ (a b : Int), xs.foldl max a ≤ b ↔ a ≤ b ∧ ∀ v ∈ xs, v ≤ b := by
  induction xs with
  | nil => simp
  | cons x xs ih => intro a b; simp only [List.foldl_cons, ih, List.mem_cons, forall_eq_or_imp, Int.max_le, and_assoc]
theorem maxTo_le {xs : List Int} {b : Int} (h : xs ≠ []) : maxTo xs ≤ b ↔ ∀ v ∈ xs, v ≤ b := by
  cases xs with
  | nil => exact absurd rfl h
  | cons x xs => simp [maxTo, foldl_max_le]

set_option maxHeartbeats 400000 in
theorem max_any (A : Option Addr) (n c : Nat) (xs : List Int) (w : World) (hn : n = xs.length) (h0 : 0 < n) (hl : n ≤ 65536) (hr : Ints w .u8 A xs) :
    Calls Try.prog 45 #[.slice A n c] w fun e w' => e = .returned (.int .u8 (maxTo xs)) ∧ w = w' := by
  obtain ⟨b, off, rfl, hc⟩ := hr.open (by omega)
  rw [← hn] at hc
  have hc0 : w.cell? ⟨b, off, none⟩ = some (.int .u8 (gi xs 0)) := hc 0 (by omega)
  have h1 : ¬ ((n : Int) < 1) := by omega
  have Hn := hid hn
  clear hn hr
  go_enter Try.func45, Try.ntmps45
  go_wp2
  go_loop [3, 4] (fun m i => ∃ k : Nat, 1 ≤ k ∧ k ≤ n ∧ i = .int .i64 k ∧ m = .int .u8 (maxUp xs k)) (fun _ i => n - (intOf i).toNat)
  case atStart =>
     refine ⟨1, by omega, by omega, rfl, ?_⟩
     cases xs with
     | nil => exact absurd Hn.out (by simp; omega)
     | cons x xs => simp [maxUp, maxTo, gi]
  case round =>
    obtain ⟨k, hk1, hk2, rfl, rfl⟩ := hrel
    have hcell : k < n → w.cell? ⟨b, off + k, none⟩ = some (.int .u8 (gi xs k)) := fun h => hc k h
    by_cases hlt : k < n
    · go_wp2
      go_round
      case rel => exact ⟨k + 1, by omega, by omega, by go_num, by rw [maxUp_succ xs k hk1 (by have := Hn.out; omega)]⟩
      case measure => simp [intOf]; omega
    · go_wp2
      go_ret
      refine ⟨ret_int ?_, rfl⟩
      have := Hn.out
      unfold maxUp
      rw [List.take_of_length_le (by omega)]

theorem psize_any (n : Int) (w : World) :
    Calls Try.prog 44 #[.int .i64 n] w fun e w' => e = .returned (.bool (decide (1 ≤ n) && decide (n ≤ 64))) ∧ w = w' := by
  by_cases h : 1 ≤ n <;> by_cases h2 : n ≤ 64
  all_goals
    go_enter Try.func44, Try.ntmps44
    go_wp2
    go_ret
    exact ⟨ret_bool (by simp [h, h2]), rfl⟩

/-- plan.Valid, wayfinderbase.Plan: a valid plan. -/
theorem valid_t (W H : Int) (A : Option Addr) (n c : Nat) (xs : List Int) (w : World) (hn : n = xs.length) (hv : vldB W H xs = true) (hr : Ints w .u8 A xs) :
    Calls Try.prog 33 #[.agg #[.int .i64 W, .int .i64 H, .slice A n c]] w fun e w' => e = .returned (.bool true) ∧ Below w.heap.size w w' := by
  have hV := vld_iff.1 hv
  obtain ⟨hp, hp2, hp3, hp4⟩ := hV.pos
  obtain ⟨h1, h2, h3, h4, h5, h6⟩ := hV
  have hm : maxTo xs ≤ 2 := (maxTo_le (by rintro rfl; simp at hp3)).2 h6
  rw [← hn] at h5 hp3 hp4
  have Hn := hid hn
  clear hn h6 hv
  have H5 : ((n : Int) != W * H) = false := by simp [h5]
  have Hz : ((n : Int) == 0) = false := by simp; omega
  have hn2 : n ≤ 65536 := by omega
  clear h5
  go_enter Try.func33, Try.ntmps33
  go_wp2_with (first | (go_at_call 44; refine (psize_any _ _).mono ?_; rintro e w' ⟨rfl, rfl⟩) | (go_at_call 45; refine (max_any A n c xs _ Hn.out hp3 hn2 (hr.alloc _)).mono ?_; rintro e w' ⟨rfl, rfl⟩))
  go_ret
  exact ⟨rfl, (Below.refl _ _).alloc (Nat.le_refl _) _⟩

theorem valid_f (W H : Int) (A : Option Addr) (n c : Nat) (xs : List Int) (w : World) (hn : n = xs.length) (hv : vldB W H xs = false) (hr : Ints w .u8 A xs) :
    Calls Try.prog 33 #[.agg #[.int .i64 W, .int .i64 H, .slice A n c]] w fun e w' => e = .returned (.bool false) ∧ Below w.heap.size w w' := by
  have hV := vld_false.1 hv
  clear hv
  by_cases h1 : 1 ≤ W ∧ W ≤ 64 ∧ 1 ≤ H ∧ H ≤ 64
  · obtain ⟨h1, h2, h3, h4⟩ := h1
    have hp2 := mul_le_64 (a := W) (b := H) (by omega) h2 (by omega) h4
    have hp : 1 * 1 ≤ W * H := Int.mul_le_mul h1 h3 (by omega) (by omega)
    obtain ⟨hp3, hp4⟩ := hp2
    by_cases h5 : (n : Int) = W * H
    · have hp5 : 0 < n := by omega
      have hm : ¬ maxTo xs ≤ 2 := fun hle => hV ⟨h1, h2, h3, h4, by omega, (maxTo_le (by rintro rfl; simp at hn; omega)).1 hle⟩
      clear hV
      have Hn := hid hn
      clear hn
      have H5 : ((n : Int) != W * H) = false := by simp [h5]
      have Hz : ((n : Int) == 0) = false := by simp; omega
      have hn2 : n ≤ 65536 := by omega
      clear h5
      go_enter Try.func33, Try.ntmps33
      go_wp2_with (first | (go_at_call 44; refine (psize_any _ _).mono ?_; rintro e w' ⟨rfl, rfl⟩) | (go_at_call 45; refine (max_any A n c xs _ Hn.out hp5 hn2 (hr.alloc _)).mono ?_; rintro e w' ⟨rfl, rfl⟩))
      go_ret
      exact ⟨ret_bool (by simp [hm]), (Below.refl _ _).alloc (Nat.le_refl _) _⟩
    · have H5 : ((n : Int) != W * H) = true := by simp [h5]
      clear h5 hn hV
      go_enter Try.func33, Try.ntmps33
      go_wp2_with (first | (go_at_call 44; refine (psize_any _ _).mono ?_; rintro e w' ⟨rfl, rfl⟩))
      go_ret
      exact ⟨rfl, (Below.refl _ _).alloc (Nat.le_refl _) _⟩
  · have h0 : (decide (1 ≤ W) && decide (W ≤ 64)) = false ∨ (decide (1 ≤ W) && decide (W ≤ 64)) = true ∧ (decide (1 ≤ H) && decide (H ≤ 64)) = false := by
      by_cases a : 1 ≤ W <;> by_cases b : W ≤ 64 <;> by_cases c : 1 ≤ H <;> by_cases d : H ≤ 64 <;> simp_all
    clear hV hn h1
    generalize hp : (decide (1 ≤ W) && decide (W ≤ 64)) = p at h0
    generalize hq : (decide (1 ≤ H) && decide (H ≤ 64)) = q at h0
    have HP := hid hp
    have HQ := hid hq
    clear hp hq
    rcases h0 with rfl | ⟨rfl, rfl⟩
    all_goals
      go_enter Try.func33, Try.ntmps33
      go_wp2_with (first | (go_at_call 44; refine (psize_any _ _).mono ?_; first | (rw [HP.out]; rintro e w' ⟨rfl, rfl⟩) | (rw [HQ.out]; rintro e w' ⟨rfl, rfl⟩)))
      go_ret
      exact ⟨rfl, (Below.refl _ _).alloc (Nat.le_refl _) _⟩

/-- wayfinderbase.Inside -/
theorem inside_any (W H x y : Int) (s : Value) (w : World) :
    Calls Try.prog 23 #[.agg #[.int .i64 W, .int .i64 H, s], .agg #[.int .i64 x, .int .i64 y]] w fun e w' => e = .returned (.bool (inB W H x y)) ∧ Below w.heap.size w w' := by
  have hx := @inB_iff W H x y
  have Hx := hid hx
  clear hx
  by_cases h1 : 0 ≤ x
  · by_cases h2 : x < W
    · by_cases h3 : 0 ≤ y
      · by_cases h4 : y < H
        all_goals
          go_enter Try.func23, Try.ntmps23
          go_wp2
          go_ret
          exact ⟨ret_bool (by rw [Bool.eq_iff_iff, Hx.out]; simp; omega), ((Below.refl _ _).alloc (Nat.le_refl _) _).alloc (by simp) _⟩
      · go_enter Try.func23, Try.ntmps23
        go_wp2
        go_ret
        exact ⟨ret_bool (by rw [Bool.eq_iff_iff, Hx.out]; simp; omega), ((Below.refl _ _).alloc (Nat.le_refl _) _).alloc (by simp) _⟩
    · go_enter Try.func23, Try.ntmps23
      go_wp2
      go_ret
      exact ⟨ret_bool (by rw [Bool.eq_iff_iff, Hx.out]; simp; omega), ((Below.refl _ _).alloc (Nat.le_refl _) _).alloc (by simp) _⟩
  · go_enter Try.func23, Try.ntmps23
    go_wp2
    go_ret
    exact ⟨ret_bool (by rw [Bool.eq_iff_iff, Hx.out]; simp; omega), ((Below.refl _ _).alloc (Nat.le_refl _) _).alloc (by simp) _⟩
/-- distance.inside -/
theorem dinside_any (W H x y : Int) (s : Value) (w : World) :
    Calls Try.prog 35 #[.agg #[.int .i64 W, .int .i64 H, s], .agg #[.int .i64 x, .int .i64 y]] w fun e w' => e = .returned (.bool (inB W H x y)) ∧ Below w.heap.size w w' := by
  have hx := @inB_iff W H x y
  have Hx := hid hx
  clear hx
  by_cases h1 : 0 ≤ x
  · by_cases h2 : x < W
    · by_cases h3 : 0 ≤ y
      · by_cases h4 : y < H
        all_goals
          go_enter Try.func35, Try.ntmps35
          go_wp2
          go_ret
          exact ⟨ret_bool (by rw [Bool.eq_iff_iff, Hx.out]; simp; omega), ((Below.refl _ _).alloc (Nat.le_refl _) _).alloc (by simp) _⟩
      · go_enter Try.func35, Try.ntmps35
        go_wp2
        go_ret
        exact ⟨ret_bool (by rw [Bool.eq_iff_iff, Hx.out]; simp; omega), ((Below.refl _ _).alloc (Nat.le_refl _) _).alloc (by simp) _⟩
    · go_enter Try.func35, Try.ntmps35
      go_wp2
      go_ret
      exact ⟨ret_bool (by rw [Bool.eq_iff_iff, Hx.out]; simp; omega), ((Below.refl _ _).alloc (Nat.le_refl _) _).alloc (by simp) _⟩
  · go_enter Try.func35, Try.ntmps35
    go_wp2
    go_ret
    exact ⟨ret_bool (by rw [Bool.eq_iff_iff, Hx.out]; simp; omega), ((Below.refl _ _).alloc (Nat.le_refl _) _).alloc (by simp) _⟩

/-- wayfinderbase.At, of a valid plan -/
theorem at_any (W H x y : Int) (A : Option Addr) (n c : Nat) (xs : List Int) (w : World) (hn : n = xs.length) (hv : Vld W H xs) (hr : Ints w .u8 A xs) :
    Calls Try.prog 22 #[.agg #[.int .i64 W, .int .i64 H, .slice A n c], .agg #[.int .i64 x, .int .i64 y]] w fun e w' => e = .returned (.int .u8 (atI W H xs x y)) ∧ Below w.heap.size w w' := by
  obtain ⟨b, off, rfl, hc⟩ := hr.open hv.pos.2.2.1
  cases hin : inB W H x y
  · have Hr : Hid (atI W H xs x y = 2) := by unfold Hid atI; rw [hin]; rfl
    have hi : Hid (inB W H x y = false) := hin
    clear hin hn
    go_enter Try.func22, Try.ntmps22
    go_wp2_with (go_at_call 23; refine (inside_any _ _ _ _ _ _).mono ?_; rw [hi.out]; rintro e w1 ⟨rfl, hb1⟩)
    go_ret
    exact ⟨ret_int Hr.out.symm, (((Below.refl _ _).alloc (Nat.le_refl _) _).alloc (by simp) _).trans (hb1.mono (by simp; omega))⟩
  · have Hr : Hid (atI W H xs x y = gi xs (y * W + x).toNat) := by unfold Hid atI; rw [hin]; rfl
    have hi : Hid (inB W H x y = true) := hin
    obtain ⟨i1, i2, i3, i4, i5, i6, i7, i8, i9⟩ := hv.idx hin
    have hk := hc _ i5
    have hw := hv.w1
    have h6 : ((y * W + x : Int) < (n : Int)) := by have := hv.len; omega
    clear hin hn hc
    go_enter Try.func22, Try.ntmps22
    go_wp2_with (go_at_call 23; refine (inside_any _ _ _ _ _ _).mono ?_; rw [hi.out]; rintro e w1 ⟨rfl, hb1⟩; obtain ⟨hc1, hf1⟩ := bcell hb1; have hk1 := cell_below (cell_alloc (cell_alloc hk _) _) hb1)
    go_ret
    exact ⟨ret_int Hr.out.symm, (((Below.refl _ _).alloc (Nat.le_refl _) _).alloc (by simp) _).trans (hb1.mono (by simp; omega))⟩

/-- wayfinderref35.far -/
theorem far_any (ax ay bx by_ : Int) (w : World) (h : -4096 ≤ ax - bx ∧ ax - bx ≤ 4096 ∧ -4096 ≤ ay - by_ ∧ ay - by_ ≤ 4096) :
    Calls Try.prog 39 #[.agg #[.int .i64 ax, .int .i64 ay], .agg #[.int .i64 bx, .int .i64 by_]] w fun e w' => e = .returned (.int .i64 (farI ax ay bx by_)) ∧ Below w.heap.size w w' := by
  obtain ⟨h1, h2, h3, h4⟩ := h
  obtain ⟨g1, g2⟩ := sq_bd h1 h2
  obtain ⟨g3, g4⟩ := sq_bd h3 h4
  go_enter Try.func39, Try.ntmps39
  go_wp2
  go_ret
  exact ⟨rfl, ((Below.refl _ _).alloc (Nat.le_refl _) _).alloc (by simp) _⟩
/-- distance.apart -/
theorem apart_any (ax ay bx by_ : Int) (w : World) (h : -4096 ≤ ax - bx ∧ ax - bx ≤ 4096 ∧ -4096 ≤ ay - by_ ∧ ay - by_ ≤ 4096) :
    Calls Try.prog 37 #[.agg #[.int .i64 ax, .int .i64 ay], .agg #[.int .i64 bx, .int .i64 by_]] w fun e w' => e = .returned (.int .i64 (farI ax ay bx by_)) ∧ Below w.heap.size w w' := by
  obtain ⟨h1, h2, h3, h4⟩ := h
  obtain ⟨g1, g2⟩ := sq_bd h1 h2
  obtain ⟨g3, g4⟩ := sq_bd h3 h4
  go_enter Try.func37, Try.ntmps37
  go_wp2
  go_ret
  exact ⟨rfl, ((Below.refl _ _).alloc (Nat.le_refl _) _).alloc (by simp) _⟩

/-- wayfinderref35.free, of a valid plan -/
theorem rfree_any (W H x y : Int) (A : Option Addr) (n c : Nat) (xs : List Int) (w : World) (hn : n = xs.length) (hv : Vld W H xs) (hr : Ints w .u8 A xs) :
    Calls Try.prog 38 #[.agg #[.int .i64 W, .int .i64 H, .slice A n c], .agg #[.int .i64 x, .int .i64 y]] w fun e w' => e = .returned (.bool (freeB W H xs x y)) ∧ Below w.heap.size w w' := by
  have Hn := hid hn
  clear hn
  go_enter Try.func38, Try.ntmps38
  go_wp2_with (go_at_call 22; refine (at_any _ _ _ _ _ _ _ xs _ Hn.out hv ((hr.alloc _).alloc _)).mono ?_; rintro e w1 ⟨rfl, hb1⟩)
  go_ret
  exact ⟨rfl, (((Below.refl _ _).alloc (Nat.le_refl _) _).alloc (by simp) _).trans (hb1.mono (by simp; omega))⟩

/-- distance.free, of a valid plan -/
theorem dfree_any (W H x y : Int) (A : Option Addr) (n c : Nat) (xs : List Int) (w : World) (hn : n = xs.length) (hv : Vld W H xs) (hr : Ints w .u8 A xs) :
    Calls Try.prog 36 #[.agg #[.int .i64 W, .int .i64 H, .slice A n c], .agg #[.int .i64 x, .int .i64 y]] w fun e w' => e = .returned (.bool (freeB W H xs x y)) ∧ Below w.heap.size w w' := by
  obtain ⟨b, off, rfl, hc⟩ := hr.open hv.pos.2.2.1
  cases hin : inB W H x y
  · have Hr : Hid (freeB W H xs x y = false) := by unfold Hid freeB atI; rw [hin]; rfl
    have hi : Hid (inB W H x y = false) := hin
    clear hin hn
    go_enter Try.func36, Try.ntmps36
    go_wp2_with (go_at_call 35; refine (dinside_any _ _ _ _ _ _).mono ?_; rw [hi.out]; rintro e w1 ⟨rfl, hb1⟩)
    go_ret
    exact ⟨ret_bool Hr.out.symm, (((Below.refl _ _).alloc (Nat.le_refl _) _).alloc (by simp) _).trans (hb1.mono (by simp; omega))⟩
  · have Hr : Hid (freeB W H xs x y = (gi xs (y * W + x).toNat == 1)) := by unfold Hid freeB atI; rw [hin]; rfl
    have hi : Hid (inB W H x y = true) := hin
    obtain ⟨i1, i2, i3, i4, i5, i6, i7, i8, i9⟩ := hv.idx hin
    have hk := hc _ i5
    have hw := hv.w1
    have h6 : ((y * W + x : Int) < (n : Int)) := by have := hv.len; omega
    clear hin hn hc
    go_enter Try.func36, Try.ntmps36
    go_wp2_with (go_at_call 35; refine (dinside_any _ _ _ _ _ _).mono ?_; rw [hi.out]; rintro e w1 ⟨rfl, hb1⟩; obtain ⟨hc1, hf1⟩ := bcell hb1; have hk1 := cell_below (cell_alloc (cell_alloc hk _) _) hb1)
    go_ret
    exact ⟨ret_bool Hr.out.symm, (((Below.refl _ _).alloc (Nat.le_refl _) _).alloc (by simp) _).trans (hb1.mono (by simp; omega))⟩
end Go.Proofs.Ytpanbblbcnmadaa
