/- Walks: distance.Squares, wayfinderbase.Ints on equal lists, few, awake of layer 35. Conditions: as each theorem states. -/
import Derived.Test.YtpanbblbcnmadaaSqs
import Derived.Test.YtpanbblbcnmadaaNear2
import Derived.BigQuiet
import Derived.Deep.QuietTactic
namespace Go.Proofs.Ytpanbblbcnmadaa
open Go.RowKit

/-- A new row of numbers and OK are returned. -/
def RowOk (n : Nat) (R : List Int → Prop) (w : World) (e : Ending) (w' : World) : Prop :=
  ∃ (g : Nat) (arr : List Int), w.heap.size ≤ g ∧ e = .returned (.tuple #[.slice (some ⟨g, 0, none⟩) n n, .int .i64 0]) ∧ arr.length = n ∧ R arr ∧ Arr w' g 3 .i64 arr ∧ Below w.heap.size w w'

theorem dsquares_t (W H : Int) (A : Option Addr) (n c : Nat) (xs : List Int) (w : World) (hn : n = xs.length) (hv : Vld W H xs) (hr : Ints w .u8 A xs) :
    Calls Try.prog 15 #[.agg #[.int .i64 W, .int .i64 H, .slice A n c]] w (RowOk n (fun arr => arr = sqs W H xs) w) := by
  have Hn := hid hn
  clear hn
  go_enter Try.func15, Try.ntmps15
  go_wp2_with (first
    | (go_at_call 33; refine (valid_t _ _ _ _ _ xs _ Hn.out (vld_iff.2 hv) (hr.alloc _)).mono ?_; rintro e w1 ⟨rfl, hb1⟩; obtain ⟨hc1, hf1, hz1⟩ := after hb1)
    | (go_at_call 34; refine (squares_any _ _ _ _ _ xs _ Hn.out hv ((hr.alloc _).below hb1)).mono ?_; rintro e w2 ⟨g, arr, hg, rfl, hl, hR, ha, hb2⟩; have HL := hid hl; have HR := hid hR; clear hl hR))
  go_ret2
  exact ⟨g, arr, by have := hb1.size; simp at this; omega, rfl, HL.out, HR.out, ha, bstep (bstep (ba1 _ _) hb1) hb2⟩

theorem dsquares_f (W H : Int) (A : Option Addr) (n c : Nat) (xs : List Int) (w : World) (hn : n = xs.length) (hv : vldB W H xs = false) (hr : Ints w .u8 A xs) :
    Calls Try.prog 15 #[.agg #[.int .i64 W, .int .i64 H, .slice A n c]] w fun e w' => e = .returned (.tuple #[.slice none 0 0, .int .i64 1]) ∧ Below w.heap.size w w' := by
  have Hn := hid hn
  have Hv := hid hv
  clear hn hv
  go_enter Try.func15, Try.ntmps15
  go_wp2_with (go_at_call 33; refine (valid_f _ _ _ _ _ xs _ Hn.out Hv.out (hr.alloc _)).mono ?_; rintro e w1 ⟨rfl, hb1⟩)
  go_ret2
  exact ⟨rfl, bstep (ba1 _ _) hb1⟩

theorem few_any (W H : Int) (A : Option Addr) (n c : Nat) (w : World) :
    Calls Try.prog 13 #[.agg #[.int .i64 W, .int .i64 H, .slice A n c]] w fun e w' => e = .returned (.bool (decide ((n : Int) ≤ 200))) ∧ Below w.heap.size w w' := by
  go_enter Try.func13, Try.ntmps13
  go_wp2
  go_ret
  exact ⟨rfl, ba1 _ _⟩

theorem ints_t (A1 A2 : Option Addr) (n c1 c2 : Nat) (xs : List Int) (w : World) (hn : n = xs.length) (hl : n ≤ 1073741824) (h1 : Ints w .i64 A1 xs) (h2 : Ints w .i64 A2 xs) :
    Calls Try.prog 17 #[.slice A1 n c1, .slice A2 n c2] w fun e w' => e = .returned (.bool true) ∧ Below w.heap.size w w' := by
  have Hn := hid hn
  clear hn
  have H1 := hid h1
  have H2 := hid h2
  clear h1 h2
  have hne : ((n : Int) != (n : Int)) = false := by simp
  go_enter Try.func17, Try.ntmps17
  go_wp2
  go_loopw [5] (fun i wr => ∃ k m : Nat, k ≤ n ∧ i = .int .i64 k ∧ wr = w.drewN m) (fun i _ => n - (intOf i).toNat)
  case atStart => exact ⟨0, 0, by omega, rfl, rfl⟩
  case round =>
    obtain ⟨k, m, hk, rfl, rfl⟩ := hrel
    by_cases hlt : k < n
    · obtain ⟨b1, o1, rfl, hc1⟩ := H1.out.open (by rw [← Hn.out]; omega)
      obtain ⟨b2, o2, rfl, hc2⟩ := H2.out.open (by rw [← Hn.out]; omega)
      have d1 := hc1 k (by rw [← Hn.out]; exact hlt)
      have d2 := hc2 k (by rw [← Hn.out]; exact hlt)
      clear hc1 hc2
      have hne2 : (gi xs k != gi xs k) = false := by simp
      have hkI : (k : Int) < n := by omega
      go_wp2
      go_quiet (fail)
      go_wp2
      go_roundw
      case rel => exact ⟨k + 1, _, by omega, by go_num, rfl⟩
      case measure => simp [intOf]; omega
    · go_wp2
      go_ret
      exact ⟨rfl, below_drewN' (Below.refl _ _) _⟩

theorem awake_vld : Vld 3 3 [1, 1, 1, 1, 1, 1, 1, 1, 1] := vld_iff.1 (by decide)
set_option maxRecDepth 100000 in
theorem awake_sqs : sqs 3 3 [1, 1, 1, 1, 1, 1, 1, 1, 1] = [1, 1, 1, 1, 4, 1, 1, 1, 1] := by decide +kernel
theorem awake_near : nearI 3 3 [1, 1, 1, 1, 1, 1, 1, 1, 1] 1 1 = (1, -1, 4) := by decide +kernel

set_option maxRecDepth 100000 in
set_option maxHeartbeats 1000000 in
theorem awake_any (w : World) : Calls Try.prog 12 #[] w fun e w' => e = .returned (.bool true) ∧ Below w.heap.size w w' := by
  go_enter Try.func12, Try.ntmps12
  have hA := (Arr.of_alloc w 5 .u8 [1, 1, 1, 1, 1, 1, 1, 1, 1])
  have HA := hid hA
  clear hA
  go_wp2_with fail
  refine (dsquares_t 3 3 _ 9 9 [1, 1, 1, 1, 1, 1, 1, 1, 1] _ rfl awake_vld (HA.out.alloc _).ints).mono ?_
  rintro e w1 ⟨g, arr, hg, rfl, hl, hR, ha, hb1⟩
  rw [awake_sqs] at hR
  subst hR
  clear hl
  obtain ⟨hc1, hf1, hz1⟩ := after hb1
  go_wp2_with fail
  refine (dnear_any 3 3 1 1 _ 9 9 [1, 1, 1, 1, 1, 1, 1, 1, 1] _ rfl awake_vld (by decide) ((HA.out.alloc _).below hb1).ints).mono ?_
  rintro e w2 ⟨a, b, l, hn, rfl, hb2⟩
  rw [awake_near] at hn
  injection hn with hn1 hn2
  injection hn2 with hn2 hn3
  subst hn1 hn2 hn3
  obtain ⟨hc2, hf2, hz2⟩ := after hb2
  have ha2 := ha.below hb2
  have hlt2 := ha2.lt
  go_wp2_with fail
  refine (ints_t _ _ 9 9 9 [1, 1, 1, 1, 4, 1, 1, 1, 1] _ rfl (by omega) ((ha2.alloc _).alloc _).ints ?_).mono ?_
  · have h := Arr.of_alloc (w2.alloc (.cells #[.int .i64 1, .int .i64 (-1)] 35)) 3 .i64 [1, 1, 1, 1, 4, 1, 1, 1, 1]
    rw [World.size_alloc] at h
    exact h.ints
  rintro e w3 ⟨rfl, hb3⟩
  obtain ⟨hc3, hf3, hz3⟩ := after hb3
  go_wp2_with fail
  go_ret
  exact ⟨rfl, bstep (bstep (bstep (bstep (ba2 w _ _) hb1) hb2) (ba2 _ _ _)) hb3⟩
end Go.Proofs.Ytpanbblbcnmadaa
