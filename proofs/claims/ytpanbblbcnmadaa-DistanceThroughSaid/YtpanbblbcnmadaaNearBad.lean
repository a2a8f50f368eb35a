/- Walks: Nearest of both texts where the plan is not valid, or the cell is not in it. Conditions: as each theorem states. -/
import Derived.Test.YtpanbblbcnmadaaPlan
import Derived.Test.YtpanbblbcnmadaaPlan2
namespace Go.Proofs.Ytpanbblbcnmadaa
open Go.RowKit

theorem dnear_inv (W H x y : Int) (A : Option Addr) (n c : Nat) (xs : List Int) (w : World) (hn : n = xs.length) (hv : vldB W H xs = false) (hr : Ints w .u8 A xs) :
    Calls Try.prog 19 #[.agg #[.int .i64 W, .int .i64 H, .slice A n c], .agg #[.int .i64 x, .int .i64 y]] w fun e w' => e = .returned (.tuple #[.agg #[.int .i64 0, .int .i64 0], .int .i64 0, .int .i64 1]) ∧ Below w.heap.size w w' := by
  have Hn := hid hn
  have Hv := hid hv
  clear hn hv
  go_enter Try.func19, Try.ntmps19
  go_wp2_with (go_at_call 33; refine (valid_f _ _ _ _ _ xs _ Hn.out Hv.out (((hr.alloc _).alloc _).alloc _)).mono ?_; rintro e w1 ⟨rfl, hb1⟩; obtain ⟨hc1, hf1, hz1⟩ := after hb1)
  refine bodyPost_ret (v := .tuple #[.agg #[.int .i64 0, .int .i64 0], .int .i64 0, .int .i64 1]) (by simp [results, Try.results19, go_sem, hc1]) rfl ⟨rfl, ?_⟩
  exact (((bstep (ba3 w _ _ _) hb1).setCell (by simp; omega) _).setCell (by simp; omega) _)

theorem dnear_out (W H x y : Int) (A : Option Addr) (n c : Nat) (xs : List Int) (w : World) (hn : n = xs.length) (hv : vldB W H xs = true) (hi : inB W H x y = false) (hr : Ints w .u8 A xs) :
    Calls Try.prog 19 #[.agg #[.int .i64 W, .int .i64 H, .slice A n c], .agg #[.int .i64 x, .int .i64 y]] w fun e w' => e = .returned (.tuple #[.agg #[.int .i64 0, .int .i64 0], .int .i64 0, .int .i64 7]) ∧ Below w.heap.size w w' := by
  have Hn := hid hn
  have Hv := hid hv
  have Hi := hid hi
  clear hn hv hi
  go_enter Try.func19, Try.ntmps19
  go_wp2_with (first
    | (go_at_call 33; refine (valid_t _ _ _ _ _ xs _ Hn.out Hv.out (((hr.alloc _).alloc _).alloc _)).mono ?_; rintro e w1 ⟨rfl, hb1⟩; obtain ⟨hc1, hf1, hz1⟩ := after hb1)
    | (go_at_call 35; refine (dinside_any _ _ _ _ _ _).mono ?_; rw [Hi.out]; rintro e w2 ⟨rfl, hb2⟩; obtain ⟨hc2, hf2, hz2⟩ := after hb2; have e2 := lt_after hb1 (b := w.heap.size + 1 + 1) (by simp)))
  refine bodyPost_ret (v := .tuple #[.agg #[.int .i64 0, .int .i64 0], .int .i64 0, .int .i64 7]) (by simp [results, Try.results19, go_sem, hc1, hc2, e2]) rfl ⟨rfl, ?_⟩
  exact (((bstep (bstep (ba3 w _ _ _) hb1) hb2).setCell (by simp; omega) _).setCell (by simp; omega) _)
theorem rnear_inv (W H x y : Int) (A : Option Addr) (n c : Nat) (xs : List Int) (w : World) (hn : n = xs.length) (hv : vldB W H xs = false) (hr : Ints w .u8 A xs) :
    Calls Try.prog 20 #[.agg #[.int .i64 W, .int .i64 H, .slice A n c], .agg #[.int .i64 x, .int .i64 y]] w fun e w' => e = .returned (.tuple #[.agg #[.int .i64 0, .int .i64 0], .int .i64 0, .int .i64 1]) ∧ Below w.heap.size w w' := by
  have Hn := hid hn
  have Hv := hid hv
  clear hn hv
  go_enter Try.func20, Try.ntmps20
  go_wp2_with (go_at_call 29; refine (rplan_f _ _ _ _ _ xs _ Hn.out Hv.out (((hr.alloc _).alloc _).alloc _)).mono ?_; rintro e w1 ⟨rfl, hb1⟩; obtain ⟨hc1, hf1, hz1⟩ := after hb1)
  refine bodyPost_ret (v := .tuple #[.agg #[.int .i64 0, .int .i64 0], .int .i64 0, .int .i64 1]) (by simp [results, Try.results20, go_sem, hc1]) rfl ⟨rfl, ?_⟩
  exact (((bstep (ba3 w _ _ _) hb1).setCell (by simp; omega) _).setCell (by simp; omega) _)

theorem rnear_out (W H x y : Int) (A : Option Addr) (n c : Nat) (xs : List Int) (w : World) (hn : n = xs.length) (hv : vldB W H xs = true) (hi : inB W H x y = false) (hr : Ints w .u8 A xs) :
    Calls Try.prog 20 #[.agg #[.int .i64 W, .int .i64 H, .slice A n c], .agg #[.int .i64 x, .int .i64 y]] w fun e w' => e = .returned (.tuple #[.agg #[.int .i64 0, .int .i64 0], .int .i64 0, .int .i64 7]) ∧ Below w.heap.size w w' := by
  have Hn := hid hn
  have Hv := hid hv
  have Hi := hid hi
  clear hn hv hi
  go_enter Try.func20, Try.ntmps20
  go_wp2_with (first
    | (go_at_call 29; refine (rplan_t _ _ _ _ _ xs _ Hn.out Hv.out (((hr.alloc _).alloc _).alloc _)).mono ?_; rintro e w1 ⟨rfl, hb1⟩; obtain ⟨hc1, hf1, hz1⟩ := after hb1)
    | (go_at_call 23; refine (inside_any _ _ _ _ _ _).mono ?_; rw [Hi.out]; rintro e w2 ⟨rfl, hb2⟩; obtain ⟨hc2, hf2, hz2⟩ := after hb2; have e2 := lt_after hb1 (b := w.heap.size + 1 + 1) (by simp)))
  refine bodyPost_ret (v := .tuple #[.agg #[.int .i64 0, .int .i64 0], .int .i64 0, .int .i64 7]) (by simp [results, Try.results20, go_sem, hc1, hc2, e2]) rfl ⟨rfl, ?_⟩
  exact (((bstep (bstep (ba3 w _ _ _) hb1) hb2).setCell (by simp; omega) _).setCell (by simp; omega) _)
end Go.Proofs.Ytpanbblbcnmadaa
