/- Walk: wayfinderref35.Inflate. Conditions: as each theorem states. -/
import Derived.Test.YtpanbblbcnmadaaRSqs
import Derived.Test.YtpanbblbcnmadaaInfl
namespace Go.Proofs.Ytpanbblbcnmadaa
open Go.RowKit

theorem rinfl_inv (W H r2 : Int) (A : Option Addr) (n c : Nat) (xs : List Int) (w : World) (hn : n = xs.length) (hv : vldB W H xs = false) (hr : Ints w .u8 A xs) :
    Calls Try.prog 25 #[.agg #[.int .i64 W, .int .i64 H, .slice A n c], .int .i64 r2] w (PlanRes 0 0 [] 1 w) := by
  have Hn := hid hn
  have Hv := hid hv
  clear hn hv
  go_enter Try.func25, Try.ntmps25
  go_wp2_with fail
  refine (rsquares_f _ _ _ _ _ xs _ Hn.out Hv.out ((hr.alloc _).alloc _)).mono ?_
  rintro e w1 ⟨rfl, hb1⟩
  have hR1 := (Cells.new' (b := w.heap.size + 1) (w.alloc (.cells #[.int .i64 W, .int .i64 H, .slice A n c] 24)) [.int .i64 0, .int .i64 0, .slice none 0 0] 24 (by simp)).below hb1
  obtain ⟨⟨r0, r1, r2'⟩, ⟨f0, f1, f2⟩⟩ := hR1.three'
  go_wp2_with fail
  refine bodyPost_ret (v := .tuple #[.agg #[.int .i64 0, .int .i64 0, .slice none 0 0], .int .i64 1]) (by simp [results, Try.results25, go_sem, r0, r1, r2']) rfl ⟨_, _, rfl, .inl rfl, ?_⟩
  exact (((bstep (ba2 w _ _) hb1).setCell (by simp) _).setCell (by simp) _).setCell (by simp) _

theorem rinfl_range (W H r2 : Int) (A : Option Addr) (n c : Nat) (xs : List Int) (w : World) (hn : n = xs.length) (hv : vldB W H xs = true) (hr : Ints w .u8 A xs) (hr2 : r2 < 0 ∨ ¬ r2 < 0 ∧ 8192 < r2) :
    Calls Try.prog 25 #[.agg #[.int .i64 W, .int .i64 H, .slice A n c], .int .i64 r2] w (PlanRes 0 0 [] 2 w) := by
  have Hn := hid hn
  have Hv := hid hv
  clear hn hv
  rcases hr2 with h1 | ⟨h1, h2⟩
  all_goals
    go_enter Try.func25, Try.ntmps25
    go_wp2_with fail
    refine (rsquares_t _ _ _ _ _ xs _ Hn.out (vld_iff.1 Hv.out) ((hr.alloc _).alloc _)).mono ?_
    rintro e w1 ⟨v, rfl, hown, hb1⟩
    have hR1 := (Cells.new' (b := w.heap.size + 1) (w.alloc (.cells #[.int .i64 W, .int .i64 H, .slice A n c] 24)) [.int .i64 0, .int .i64 0, .slice none 0 0] 24 (by simp)).below hb1
    obtain ⟨⟨r0, r1, r2'⟩, ⟨f0, f1, f2⟩⟩ := hR1.three'
    go_wp2_with fail
    refine bodyPost_ret (v := .tuple #[.agg #[.int .i64 0, .int .i64 0, .slice none 0 0], .int .i64 2]) (by simp [results, Try.results25, go_sem, r0, r1, r2']) rfl ⟨_, _, rfl, .inl rfl, ?_⟩
    exact (((bstep (ba2 w _ _) hb1).setCell (by simp) _).setCell (by simp) _).setCell (by simp) _

set_option maxRecDepth 100000 in
set_option maxHeartbeats 2000000 in
theorem rinfl_t (W H r2 : Int) (A : Option Addr) (n c : Nat) (xs : List Int) (w : World) (hn : n = xs.length) (hv : vldB W H xs = true) (hr : Ints w .u8 A xs) (h0 : 0 ≤ r2) (h1 : r2 ≤ 8192) :
    Calls Try.prog 25 #[.agg #[.int .i64 W, .int .i64 H, .slice A n c], .int .i64 r2] w (PlanRes W H (infl r2 (sqs W H xs)) 0 w) := by
  have hV := vld_iff.1 hv
  obtain ⟨hp1, hp2, hp3, hp4⟩ := hV.pos
  have hlen := hV.len
  have HL : Hid ((sqs W H xs).length = n) := by unfold Hid; rw [sqs_len]; omega
  have Hn := hid hn
  have HV := hid hV
  have hn2 : n ≤ 4096 := by omega
  obtain ⟨i0, hi0, hz0, hz1, hz2⟩ := info_parts u8Info
  have HI := hid hi0
  have Hz0 := hid hz0
  have Hz1 := hid hz1
  have Hz2 := hid hz2
  clear hn hv hV hlen hp1 hp2 hp3 hp4 hi0 hz0 hz1 hz2
  go_enter Try.func25, Try.ntmps25
  go_wp2_with fail
  refine (rsquares_t _ _ _ _ _ xs _ Hn.out HV.out ((hr.alloc _).alloc _)).mono ?_
  rintro e w1 ⟨v, rfl, hown, hb1⟩
  obtain ⟨A1, c1, rfl, hS1⟩ := own_ints hown
  clear hown
  rw [HL.out]
  have hP1 := ((Cells.new w [.int .i64 W, .int .i64 H, .slice A n c] 24).alloc (.cells #[.int .i64 0, .int .i64 0, .slice none 0 0] 24)).below hb1
  have hR1 := (Cells.new' (b := w.heap.size + 1) (w.alloc (.cells #[.int .i64 W, .int .i64 H, .slice A n c] 24)) [.int .i64 0, .int .i64 0, .slice none 0 0] 24 (by simp)).below hb1
  have hB1 := bstep (ba2 w (.cells #[.int .i64 W, .int .i64 H, .slice A n c] 24) (.cells #[.int .i64 0, .int .i64 0, .slice none 0 0] 24)) hb1
  have hg1 := hR1.lt
  clear hb1 hr
  obtain ⟨p0, p1, p2⟩ := hP1.three
  go_wp2_with fail
  clear p0 p1 p2 hP1
  go_loopw [9] (fun i wr => ∃ (k : Nat) (v : Value), k ≤ n ∧ i = .int .i64 k ∧ wr.ownsRow (w1.heap.size + 1) 5 1 v k (((infl r2 (sqs W H xs)).take k).map (Value.int .u8)) ∧ Cells wr w1.heap.size [.int .i64 W, .int .i64 H, v] ∧ Below w1.heap.size w1 wr ∧ w1.heap.size + 1 ≤ wr.heap.size) (fun i _ => n - (intOf i).toNat)
  case atStart => exact ⟨0, .slice none 0 0, by omega, rfl, World.ownsRow_nil _ _ _ _, Cells.new _ _ _, ba1 _ _, by simp⟩
  case round =>
    obtain ⟨k, v, hk, rfl, hown, hC, hB, hsz⟩ := hrel
    obtain ⟨A2, c2, rfl⟩ := own_slice hown
    by_cases hlt : k < n
    · obtain ⟨b, off, rfl, hcS⟩ := (hS1.below hB).open (by rw [HL.out]; omega)
      have cS := hcS k (by rw [HL.out]; exact hlt)
      obtain ⟨⟨c3, c4, c5⟩, ⟨f3, f4, f5⟩⟩ := hC.three'
      have hkI : (k : Int) < n := by omega
      have hat := infl_at (r2 := r2) (l := sqs W H xs) (k := k) (by rw [HL.out]; exact hlt)
      have Hp := hid (take_push_u8 (xs := infl r2 (sqs W H xs)) (k := k) (by rw [infl_len, HL.out]; exact hlt))
      clear hcS
      by_cases hd : r2 < gi (sqs W H xs) k
      · rw [if_pos hd] at hat
        rw [hat] at Hp
        clear hat
        have hown3 := hown.alloc (.cells #[.int .u8 1] 5)
        have hC3 := hC.alloc (.cells #[.int .u8 1] 5)
        have hB3 := bstep hB (ba1 wr (.cells #[.int .u8 1] 5))
        have hs3 : w1.heap.size + 1 ≤ (wr.alloc (.cells #[.int .u8 1] 5)).heap.size := by simp; omega
        go_wp2_with (at_builtin; refine wpList_append_own _ rfl (.tmp 44) (.tmp 45) 22 rfl (w1.heap.size + 1) 5 i0 (.int .u8 0) 1 1 Try.underlying22 HI.out Hz0.out Hz1.out Hz2.out rfl (by omega) _ k _ rfl hown3 ⟨wr.heap.size, 0, none⟩ 1 1 [.int .u8 1] (by simp [Act.eval]) rfl (cell_one_new _ _ _) (ints_oneCell .u8 [1]) ?_ ?_ hs3 ?_; (simp only [maxLen]; omega); omega; intro v' w4 hown4 hg4 _; obtain ⟨A4, c4', rfl⟩ := own_slice hown4; have hC4 := hC3.belowB (below_own (Below.refl (w1.heap.size + 1) _) hown3 (Nat.le_refl _) hs3 hg4) (by omega); obtain ⟨⟨d3, d4, d5⟩, ⟨e3, e4, e5⟩⟩ := hC4.three')
        go_roundw
        case rel => exact ⟨k + 1, _, by omega, by go_num, by rw [Hp.out]; exact ownsRow_setCell_below hown4 (by simp) _, hC4.set_2, (below_own hB3 hown3 (by omega) (by simp; omega) hg4).setCell (by simp) _, by have := hg4.size; simp at this ⊢; omega⟩
        case measure => simp [intOf]; omega
      · rw [if_neg hd] at hat
        rw [hat] at Hp
        clear hat
        have hown3 := hown.alloc (.cells #[.int .u8 2] 5)
        have hC3 := hC.alloc (.cells #[.int .u8 2] 5)
        have hB3 := bstep hB (ba1 wr (.cells #[.int .u8 2] 5))
        have hs3 : w1.heap.size + 1 ≤ (wr.alloc (.cells #[.int .u8 2] 5)).heap.size := by simp; omega
        go_wp2_with (at_builtin; refine wpList_append_own _ rfl (.tmp 49) (.tmp 50) 22 rfl (w1.heap.size + 1) 5 i0 (.int .u8 0) 1 1 Try.underlying22 HI.out Hz0.out Hz1.out Hz2.out rfl (by omega) _ k _ rfl hown3 ⟨wr.heap.size, 0, none⟩ 1 1 [.int .u8 2] (by simp [Act.eval]) rfl (cell_one_new _ _ _) (ints_oneCell .u8 [2]) ?_ ?_ hs3 ?_; (simp only [maxLen]; omega); omega; intro v' w4 hown4 hg4 _; obtain ⟨A4, c4', rfl⟩ := own_slice hown4; have hC4 := hC3.belowB (below_own (Below.refl (w1.heap.size + 1) _) hown3 (Nat.le_refl _) hs3 hg4) (by omega); obtain ⟨⟨d3, d4, d5⟩, ⟨e3, e4, e5⟩⟩ := hC4.three')
        go_roundw
        case rel => exact ⟨k + 1, _, by omega, by go_num, by rw [Hp.out]; exact ownsRow_setCell_below hown4 (by simp) _, hC4.set_2, (below_own hB3 hown3 (by omega) (by simp; omega) hg4).setCell (by simp) _, by have := hg4.size; simp at this ⊢; omega⟩
        case measure => simp [intOf]; omega
    · obtain ⟨c4, c5, c6⟩ := hC.three
      obtain ⟨⟨r0, r1, r3⟩, ⟨f0, f1, f2⟩⟩ := (hR1.below hB).three'
      have HI2 : Hid ((infl r2 (sqs W H xs)).length = k) := by unfold Hid; rw [infl_len, HL.out]; omega
      go_wp2
      refine bodyPost_ret (v := .tuple #[.agg #[.int .i64 W, .int .i64 H, .slice A2 k c2], .int .i64 0]) (by simp [results, Try.results25, go_sem, r0, r1, r3]) rfl ⟨A2, c2, by rw [HI2.out], ?_, ?_⟩
      · have h2 := ownsRow_setCell_below (ownsRow_setCell_below (ownsRow_setCell_below hown (a := ⟨w.heap.size + 1, 0, none⟩) (by simp; omega) (.int .i64 W)) (a := ⟨w.heap.size + 1, 1, none⟩) (by simp; omega) (.int .i64 H)) (a := ⟨w.heap.size + 1, 2, none⟩) (by simp; omega) (.slice A2 k c2)
        rw [List.take_of_length_le (by rw [HI2.out]; exact Nat.le_refl _)] at h2
        obtain ⟨A', c', e, hi⟩ := own_ints h2
        injection e with e1
        subst e1
        exact hi
      · exact (((bstep hB1 hB).setCell (by simp) _).setCell (by simp) _).setCell (by simp) _
end Go.Proofs.Ytpanbblbcnmadaa
