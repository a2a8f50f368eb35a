/- Walks: wayfinderref35.Squares. Conditions: as each theorem states. -/
import Derived.Test.YtpanbblbcnmadaaNear
import Derived.Test.YtpanbblbcnmadaaBase3
import Derived.Test.YtpanbblbcnmadaaMsame
import Derived.Test.YtpanbblbcnmadaaCols
namespace Go.Proofs.Ytpanbblbcnmadaa
open Go.RowKit

/-- An own row of numbers and OK are returned. -/
def OwnOk (zs : List Int) (w : World) (e : Ending) (w' : World) : Prop :=
  ∃ v, e = .returned (.tuple #[v, .int .i64 0]) ∧ w'.ownsRow w.heap.size 3 1 v zs.length (zs.map (Value.int .i64)) ∧ Below w.heap.size w w'

theorem rsquares_f (W H : Int) (A : Option Addr) (n c : Nat) (xs : List Int) (w : World) (hn : n = xs.length) (hv : vldB W H xs = false) (hr : Ints w .u8 A xs) :
    Calls Try.prog 16 #[.agg #[.int .i64 W, .int .i64 H, .slice A n c]] w fun e w' => e = .returned (.tuple #[.slice none 0 0, .int .i64 1]) ∧ Below w.heap.size w w' := by
  have Hn := hid hn
  have Hv := hid hv
  clear hn hv
  go_enter Try.func16, Try.ntmps16
  go_wp2_with (go_at_call 29; refine (rplan_f _ _ _ _ _ xs _ Hn.out Hv.out (hr.alloc _)).mono ?_; rintro e w1 ⟨rfl, hb1⟩)
  go_ret2
  exact ⟨rfl, bstep (ba1 _ _) hb1⟩

set_option maxHeartbeats 1000000 in
theorem rsquares_t (W H : Int) (A : Option Addr) (n c : Nat) (xs : List Int) (w : World) (hn : n = xs.length) (hv : Vld W H xs) (hr : Ints w .u8 A xs) :
    Calls Try.prog 16 #[.agg #[.int .i64 W, .int .i64 H, .slice A n c]] w (OwnOk (sqs W H xs) w) := by
  obtain ⟨hp1, hp2, hp3, hp4⟩ := hv.pos
  have Hn := hid hn
  have hW0 := hv.w0
  have hW1 := hv.w1
  have hH0 := hv.h0
  have hH1 := hv.h1
  have Hv := hid hv
  clear hn hv hp3 hp4
  obtain ⟨i0, hi, hz0, hz1, hz2⟩ := info_parts intInfo
  have Hi := hid hi
  have Hz0 := hid hz0
  have Hz1 := hid hz1
  have Hz2 := hid hz2
  clear hi hz0 hz1 hz2
  go_enter Try.func16, Try.ntmps16
  go_wp2_with (go_at_call 29; refine (rplan_t _ _ _ _ _ xs _ Hn.out (vld_iff.2 Hv.out) (hr.alloc _)).mono ?_; rintro e w1 ⟨rfl, hb1⟩)
  have hP1 : Cells w1 w.heap.size [.int .i64 W, .int .i64 H, .slice A n c] := (Cells.new w _ _).below hb1
  have hB1 : Below w.heap.size w w1 := bstep (ba1 _ _) hb1
  have hr1 : Ints w1 .u8 A xs := hr.below hB1
  have hg0 := hP1.lt
  clear hb1 hr
  go_loopw [4, 5] (fun v yy wr => ∃ k : Nat, (k : Int) ≤ H ∧ yy = .int .i64 k ∧ wr.ownsRow w1.heap.size 3 1 v (ix W k 0) (((sqs W H xs).take (ix W k 0)).map (Value.int .i64)) ∧ Below w1.heap.size w1 wr) (fun _ yy _ => (H - intOf yy).toNat)
  case atStart =>
    refine ⟨0, by omega, rfl, ?_, Below.refl _ _⟩
    have : ix W 0 0 = 0 := by simp [ix]
    rw [this]; exact World.ownsRow_nil _ _ _ _
  case round =>
    obtain ⟨k, hk, rfl, hown, hbr⟩ := hrel
    obtain ⟨p0, p1, p2⟩ := (hP1.below hbr).three
    by_cases hlt : (k : Int) < H
    · go_wp2
      obtain ⟨wo, hwo⟩ : ∃ wo : World, wo = wr := ⟨_, rfl⟩
      rw [← hwo] at hbr hown ⊢
      clear hwo p0 p1 p2
      go_loopw [4, 6] (fun v xx wr => ∃ j : Nat, (j : Int) ≤ W ∧ xx = .int .i64 j ∧ wr.ownsRow w1.heap.size 3 1 v (ix W k j) (((sqs W H xs).take (ix W k j)).map (Value.int .i64)) ∧ Below w1.heap.size w1 wr) (fun _ xx _ => (W - intOf xx).toNat)
      case atStart => exact ⟨0, by omega, rfl, hown, hbr⟩
      case round =>
        clear hown hbr
        obtain ⟨j, hj, rfl, hown, hbr⟩ := hrel
        obtain ⟨p0, p1, p2⟩ := (hP1.below hbr).three
        have hgr := (hP1.below hbr).lt
        by_cases hltj : (j : Int) < W
        · obtain ⟨q0, q1, q2⟩ := ix_lt (y := k) (x := j) hltj hlt
          have hlen : ix W k j < (sqs W H xs).length := by rw [sqs_len]; omega
          obtain ⟨⟨a, b, l⟩, hq⟩ : ∃ p, nearI W H xs j k = p := ⟨_, rfl⟩
          have hval : Hid (gi (sqs W H xs) (ix W k j) = l) := by
            unfold Hid; rw [sqs_at hltj hlt]
            exact sqv_near hW0 hltj (by omega) (by omega) hq
          have Hq := hid hq
          clear hq
          have HJ : Hid (ix W k (j + 1) = ix W k j + 1) := by unfold Hid ix; omega
          have Hp := hid (take_push hlen)
          rw [hval.out, ← HJ.out] at Hp
          go_wp2_with fail
          refine (rnear_any _ _ _ _ _ _ _ xs _ Hn.out Hv.out (inB_iff.2 ⟨by omega, hltj, by omega, hlt⟩) (hr1.below hbr)).mono ?_
          rintro e w3 ⟨a', b', l', hq', rfl, hb3⟩
          rw [Hq.out] at hq'
          injection hq' with h1 h2
          injection h2 with h2 h3
          subst h1 h2 h3
          obtain ⟨hc3, hf3, hz3⟩ := after hb3
          have hown3 := ((own_below hown hb3).alloc (.cells #[.int .i64 a, .int .i64 b] 35)).alloc (.cells #[.int .i64 l] 3)
          have hB4 := bstep (bstep hbr hb3) (ba2 w3 (.cells #[.int .i64 a, .int .i64 b] 35) (.cells #[.int .i64 l] 3))
          have hs4 := hB4.size
          go_wp2_with (at_builtin; refine wpList_append_own _ rfl (.tmp 34) (.tmp 36) 28 rfl w1.heap.size 3 i0 (.int .i64 0) 1 8 Try.underlying28 Hi.out Hz0.out Hz1.out Hz2.out rfl (by omega) _ (ix W k j) _ rfl hown3 ⟨(w3.alloc (.cells #[.int .i64 a, .int .i64 b] 35)).heap.size, 0, none⟩ 1 1 [.int .i64 l] (by simp [Act.eval]) rfl (cell_one_new _ _ _) (ints_oneCell .i64 [l]) ?_ ?_ hs4 ?_; (simp only [maxLen]; omega); omega; intro v' w4 hown4 hg4 _)
          go_roundw
          case rel => exact ⟨j + 1, by omega, by go_num, by rw [HJ.out, ← HJ.out, Hp.out, HJ.out]; exact hown4, below_own hB4 hown3 (Nat.le_refl _) hs4 hg4⟩
          case measure => simp [intOf]; omega
        · have hjW : (j : Int) = W := by omega
          have HE : Hid (ix W (k + 1) 0 = ix W k j) := by
            unfold Hid ix; rw [← hjW]
            rw [show ((k + 1 : Nat) : Int) = (k : Int) + 1 by omega, Int.add_mul, Int.one_mul]; simp
          clear hjW
          go_wp2
          go_roundw
          case rel => exact ⟨k + 1, by omega, by go_num, by rw [HE.out]; exact hown, hbr⟩
          case measure => simp [intOf]; omega
    · have hkH : (k : Int) = H := by omega
      have HE : Hid (ix W k 0 = (sqs W H xs).length) := by
        unfold Hid ix; rw [sqs_len, ← hkH, Int.mul_comm W]; simp
      clear hkH
      go_wp2
      go_ret2
      refine ⟨_, rfl, ?_, bstep hB1 hbr⟩
      have h2 := own_base hown hB1.size
      rw [HE.out, List.take_of_length_le (Nat.le_refl _)] at h2
      exact h2
end Go.Proofs.Ytpanbblbcnmadaa
