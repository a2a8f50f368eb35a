/- Walk: the nearest cell that is not free (wayfinderref35.Nearest), of a valid plan and a cell in it. Conditions: as the theorem states. -/
import Derived.Test.YtpanbblbcnmadaaPlan
import Derived.Test.YtpanbblbcnmadaaPlan2
import Derived.Test.YtpanbblbcnmadaaMnear
namespace Go.Proofs.Ytpanbblbcnmadaa
open Go.RowKit

set_option maxHeartbeats 1000000 in
theorem rnear_any (W H x y : Int) (A : Option Addr) (n c : Nat) (xs : List Int) (w : World) (hn : n = xs.length) (hv : Vld W H xs) (hi : inB W H x y = true) (hr : Ints w .u8 A xs) :
    Calls Try.prog 20 #[.agg #[.int .i64 W, .int .i64 H, .slice A n c], .agg #[.int .i64 x, .int .i64 y]] w fun e w' => ∃ a b l, nearI W H xs x y = (a, b, l) ∧ e = .returned (.tuple #[.agg #[.int .i64 a, .int .i64 b], .int .i64 l, .int .i64 0]) ∧ Below w.heap.size w w' := by
  have Hn := hid hn
  have Hi := hid hi
  obtain ⟨i1, i2, i3, i4, i5, i6, i7, i8, i9⟩ := hv.idx hi
  clear hn hi
  go_enter Try.func20, Try.ntmps20
  go_wp2_with (first
    | (go_at_call 29; refine (rplan_t _ _ _ _ _ xs _ Hn.out (vld_iff.2 hv) (((hr.alloc _).alloc _).alloc _)).mono ?_; rintro e w1 ⟨rfl, hb1⟩; obtain ⟨hc1, hf1⟩ := bcell hb1)
    | (go_at_call 23; refine (inside_any _ _ _ _ _ _).mono ?_; rw [Hi.out]; rintro e w2 ⟨rfl, hb2⟩; obtain ⟨hc2, hf2⟩ := bcell hb2))
  have hz1 := hb1.size
  have hz2 := hb2.size
  simp only [World.size_alloc] at hz1 hz2
  have hB2 : Below w.heap.size w w2 := bstep (bstep (ba3 w _ _ _) hb1) hb2
  have hP2 : Cells w2 w.heap.size [.int .i64 W, .int .i64 H, .slice A n c] := ((((Cells.new w _ _).alloc _).alloc _).below hb1).below hb2
  have hC2 : Cells w2 (w.heap.size + 1) [.int .i64 x, .int .i64 y] := (((Cells.new' _ _ _ (by simp)).alloc _).below hb1).below hb2
  have hR2 : Cells w2 (w.heap.size + 1 + 1) [.int .i64 0, .int .i64 0] := ((Cells.new' _ _ _ (by simp)).below hb1).below hb2
  have hr2 : Ints w2 .u8 A xs := hr.below hB2
  clear hc1 hf1 hc2 hf2 hb1 hb2
  have hv' := hid hv
  have hw1 := hv.w1
  have hh1 := hv.h1
  have hw0 := hv.w0
  have hh0 := hv.h0
  clear hv i1 i2 i3 i4 i5
  go_loopw [8, 9, 10, 11] (fun l yy _ _ wr => ∃ (k : Nat) (a b lv : Int), (k : Int) ≤ H + 2 ∧ Hid (gridN W H xs x y k = (a, b, lv)) ∧ l = .int .i64 lv ∧ yy = .int .i64 ((k : Int) - 1) ∧ Below w2.heap.size w2 wr ∧ Cells wr w2.heap.size [.int .i64 a, .int .i64 b]) (fun _ yy _ _ _ => (H + 1 - intOf yy).toNat)
  case atStart => exact ⟨0, 0, 0, -1, by omega, rfl, rfl, rfl, ba1 _ _, Cells.new _ _ _⟩
  case round =>
    obtain ⟨k, a, b, lv, hk, Hk, rfl, rfl, hbr, hcr⟩ := hrel
    obtain ⟨p0, p1, p2⟩ := (hP2.below hbr).three
    have hzr := hbr.size
    by_cases hlt : (k : Int) < H + 2
    · have hd24 : decide ((k : Int) - 1 ≤ H) = true := decide_eq_true (by omega)
      go_wp2
      go_loopw [8, 10, 11] (fun l xx _ ws => ∃ (j : Nat) (a' b' lv' : Int), (j : Int) ≤ W + 2 ∧ Hid (rowN W H xs x y (a, b, lv) ((k : Int) - 1) j = (a', b', lv')) ∧ l = .int .i64 lv' ∧ xx = .int .i64 ((j : Int) - 1) ∧ Below w2.heap.size w2 ws ∧ Cells ws w2.heap.size [.int .i64 a', .int .i64 b']) (fun _ xx _ _ => (W + 1 - intOf xx).toNat)
      case atStart => exact ⟨0, a, b, lv, by omega, rfl, rfl, rfl, hbr, hcr⟩
      case round =>
        clear p0 p1 p2 hbr hcr hzr
        obtain ⟨j, a', b', lv', hj, Hj, rfl, rfl, hbs, hcs⟩ := hrel
        have hzs := hbs.size
        obtain ⟨p0, p1, p2⟩ := (hP2.below hbs).three
        obtain ⟨⟨c0, c1⟩, -⟩ := (hC2.below hbs).two
        have hg := hcs.lt
        obtain ⟨⟨q0, q1⟩, ⟨q2, q3⟩⟩ := hcs.two
        have hg0 : w.heap.size < wr.heap.size := by omega
        have hg1 : w.heap.size + 1 < wr.heap.size := by omega
        by_cases hltj : (j : Int) < W + 2
        · have hd : -4096 ≤ x - ((j : Int) - 1) ∧ x - ((j : Int) - 1) ≤ 4096 ∧ -4096 ≤ y - ((k : Int) - 1) ∧ y - ((k : Int) - 1) ≤ 4096 := by omega
          have HD := hid hd
          clear hd
          cases hf : freeB W H xs ((j : Int) - 1) ((k : Int) - 1)
          · have Hf := hid hf
            clear hf
            by_cases hcase : lv' < 0 ∨ farI x y ((j : Int) - 1) ((k : Int) - 1) < lv'
            · have Hst : Hid (rowN W H xs x y (a, b, lv) ((k : Int) - 1) (j + 1) = ((j : Int) - 1, (k : Int) - 1, farI x y ((j : Int) - 1) ((k : Int) - 1))) := by
                unfold Hid; rw [rowN_succ, Hj.out]; simp only [stepN, Hf.out, if_pos hcase]; simp
              have HG : ∀ {V : World}, Below wr.heap.size wr V → Below w2.heap.size w2 V := fun h => bstep hbs h
              by_cases hl0 : lv' < 0
              · go_wp2_with (go_at_call 38; refine (rfree_any _ _ _ _ _ _ _ xs _ Hn.out hv'.out ((hr2.below hbs).alloc _)).mono ?_; rw [Hf.out]; rintro e w3 ⟨rfl, hb3⟩; obtain ⟨hc3, hf3, hz3⟩ := after hb3; have e3 := lt_after hb3 (b := w2.heap.size) (by simp only [World.size_alloc]; omega))
                refine (far_any _ _ _ _ _ HD.out).mono ?_
                rintro e w4 ⟨rfl, hb4⟩
                go_wp2
                go_roundw
                case rel => exact ⟨j + 1, _, _, _, by omega, Hst.out, rfl, by go_num, (((HG (bstep (ba1 _ _) hb3)).setCell (by simp) _).setCell (by simp) _).trans (hb4.mono (by simp; omega)), (Cells.set2 ((hcs.alloc _).below hb3)).below hb4⟩
                case measure => simp [intOf]; omega
              · have hlt2 : farI x y ((j : Int) - 1) ((k : Int) - 1) < lv' := by omega
                go_wp2_with (go_at_call 38; refine (rfree_any _ _ _ _ _ _ _ xs _ Hn.out hv'.out ((hr2.below hbs).alloc _)).mono ?_; rw [Hf.out]; rintro e w3 ⟨rfl, hb3⟩; obtain ⟨hc3, hf3, hz3⟩ := after hb3; have e3 := lt_after hb3 (b := w2.heap.size) (by simp only [World.size_alloc]; omega))
                refine (far_any _ _ _ _ _ HD.out).mono ?_
                rintro e w4 ⟨rfl, hb4⟩
                obtain ⟨hc4, hf4, hz4⟩ := after hb4
                have e4 := lt_after hb4 e3
                go_wp2_with fail
                refine (far_any _ _ _ _ _ HD.out).mono ?_
                rintro e w5 ⟨rfl, hb5⟩
                go_wp2
                go_roundw
                case rel => exact ⟨j + 1, _, _, _, by omega, Hst.out, rfl, by go_num, (((HG (bstep (bstep (ba1 _ _) hb3) hb4)).setCell (by simp) _).setCell (by simp) _).trans (hb5.mono (by simp; omega)), (Cells.set2 (((hcs.alloc _).below hb3).below hb4)).below hb5⟩
                case measure => simp [intOf]; omega
            · have Hst : Hid (rowN W H xs x y (a, b, lv) ((k : Int) - 1) (j + 1) = (a', b', lv')) := by
                unfold Hid; rw [rowN_succ, Hj.out]; simp only [stepN, Hf.out, if_neg hcase]; simp
              have HG : ∀ {V : World}, Below wr.heap.size wr V → Below w2.heap.size w2 V := fun h => bstep hbs h
              have hl0 : ¬ lv' < 0 := fun h => hcase (.inl h)
              have hlt2 : ¬ farI x y ((j : Int) - 1) ((k : Int) - 1) < lv' := fun h => hcase (.inr h)
              clear hcase
              go_wp2_with (go_at_call 38; refine (rfree_any _ _ _ _ _ _ _ xs _ Hn.out hv'.out ((hr2.below hbs).alloc _)).mono ?_; rw [Hf.out]; rintro e w3 ⟨rfl, hb3⟩; obtain ⟨hc3, hf3, hz3⟩ := after hb3)
              refine (far_any _ _ _ _ _ HD.out).mono ?_
              rintro e w4 ⟨rfl, hb4⟩
              go_wp2
              go_roundw
              case rel => exact ⟨j + 1, _, _, _, by omega, Hst.out, rfl, by go_num, HG (bstep (bstep (ba1 _ _) hb3) hb4), ((hcs.alloc _).below hb3).below hb4⟩
              case measure => simp [intOf]; omega
          · have Hst : Hid (rowN W H xs x y (a, b, lv) ((k : Int) - 1) (j + 1) = (a', b', lv')) := by
              unfold Hid; rw [rowN_succ, Hj.out]; simp only [stepN, hf]; simp
            have HG : ∀ {V : World}, Below wr.heap.size wr V → Below w2.heap.size w2 V := fun h => bstep hbs h
            have Hf := hid hf
            clear hf
            go_wp2_with (go_at_call 38; refine (rfree_any _ _ _ _ _ _ _ xs _ Hn.out hv'.out ((hr2.below hbs).alloc _)).mono ?_; rw [Hf.out]; rintro e w3 ⟨rfl, hb3⟩)
            go_roundw
            case rel => exact ⟨j + 1, _, _, _, by omega, Hst.out, rfl, by go_num, HG (bstep (ba1 _ _) hb3), (hcs.alloc _).below hb3⟩
            case measure => simp [intOf]; omega
        · go_wp2
          go_roundw
          case rel => exact ⟨k + 1, a', b', lv', by omega, by unfold Hid; rw [gridN_succ, Hk.out, show (W + 2).toNat = j by omega]; exact Hj.out, rfl, by go_num, hbs, hcs⟩
          case measure => simp [intOf]; omega
    · obtain ⟨⟨r0, r1⟩, ⟨r2, r3⟩⟩ := (hR2.below hbr).two
      obtain ⟨⟨c0, c1⟩, -⟩ := hcr.two
      have hg := hcr.lt
      have Hk' : Hid (nearI W H xs x y = (a, b, lv)) := by
        unfold Hid nearI; rw [show (H + 2).toNat = k by omega]; exact Hk.out
      go_wp2
      refine bodyPost_ret (v := .tuple #[.agg #[.int .i64 a, .int .i64 b], .int .i64 lv, .int .i64 0]) (by simp [results, Try.results20, go_sem, r0, r1]) rfl ⟨a, b, lv, Hk'.out, rfl, ?_⟩
      exact ((bstep hB2 hbr).setCell (by simp; omega) _).setCell (by simp; omega) _
end Go.Proofs.Ytpanbblbcnmadaa
