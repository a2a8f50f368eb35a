/- Walk: distance.squares of a valid plan. Conditions: as the theorem states. -/
import Derived.Test.YtpanbblbcnmadaaCols
import Derived.Test.YtpanbblbcnmadaaMsqs
import Derived.Deep.RegionWith
import Derived.Deep.DeepCutAuto
namespace Go.Proofs.Ytpanbblbcnmadaa
open Go.RowKit

set_option maxRecDepth 100000 in
set_option maxHeartbeats 2000000 in
theorem squares_any (W H : Int) (A : Option Addr) (n c : Nat) (xs : List Int) (w : World) (hn : n = xs.length) (hv : Vld W H xs) (hr : Ints w .u8 A xs) :
    Calls Try.prog 34 #[.agg #[.int .i64 W, .int .i64 H, .slice A n c]] w (NewRow n (fun arr => arr = sqs W H xs) w) := by
  obtain ⟨hp1, hp2, hp3, hp4⟩ := hv.pos
  have hlen := hv.len
  have hW0 := hv.w0
  have hW1 := hv.w1
  obtain ⟨h, rfl⟩ : ∃ h : Nat, H = h := ⟨H.toNat, by have := hv.h0; omega⟩
  have hH1 := hv.h1
  rw [← hn] at hlen
  have Hn := hid hn
  have hn2 : n ≤ 4096 := by omega
  have hnWH : (n : Int) ≤ W * h := by omega
  have hnWH' : W * h ≤ (n : Int) := by omega
  clear hn hlen hp3 hp4
  have hmk := fun W => run_make_row' (P := Try.prog) 28 3 (.int .i64 0) 8 Try.underlying28 intInfo rfl .i64 .i64 n (by omega) (by omega) W
  go_enter Try.func34, Try.ntmps34
  go_upto_region 1 with fail
  go_cut [3, 4] (fun s3 s4 wx => ∃ (g1 g2 : Nat) (arr : List Int), s3 = .slice (some ⟨g1, 0, none⟩) n n ∧ s4 = .slice (some ⟨g2, 0, none⟩) n n ∧ w.heap.size < g1 ∧ w.heap.size < g2 ∧ g1 ≠ g2 ∧ Hid (arr.length = n) ∧ Hid (Done W h xs arr W.toNat) ∧ Arr wx g1 3 .i64 arr ∧ Arr wx g2 3 .i64 (List.replicate n 0) ∧ Below (w.heap.size + 1) (w.alloc (.cells #[.int .i64 W, .int .i64 h, .slice A n c] 24)) wx)
  case first =>
    go_region_with (go_at_call 46; refine (columns_any _ _ A n c xs _ Hn.out hv (by first | exact hr.alloc _ | exact (hr.alloc _).alloc _)).mono ?_; rintro e w1 ⟨g, arr, hg, rfl, hal, hD, harr, hb1⟩; have Hal := hid hal; clear hal; obtain ⟨hc1, hf1, hz1⟩ := after hb1; have HB : Below (w.heap.size + 1) (w.alloc (.cells #[.int .i64 W, .int .i64 h, .slice A n c] 24)) w1 := (by first | exact below_a_drew hb1 | exact below_aa_drew hb1))
    all_goals
      have hg' : w.heap.size + 1 ≤ g := by simp at hg; omega
      have hs1 := HB.size
      simp only [World.size_alloc] at hs1
      go_wp2_with fail
      go_meet
      first
        | exact ⟨g, w1.heap.size, arr, rfl, rfl, by omega, by omega, by have := harr.lt; omega, Hal, hD, harr.alloc _, Arr.made _ _ _ _, HB.alloc (by omega) _⟩
        | exact ⟨g, w.heap.size + 1, arr, rfl, rfl, by omega, by omega, by simp at hg; omega, Hal, hD, harr, by have h2 := (Arr.made (w.alloc (.cells #[.int .i64 W, .int .i64 h, .slice A n c] 24)) 3 .i64 n).drew.below hb1; rw [World.size_alloc] at h2; exact h2, HB⟩
  case rest =>
    obtain ⟨g1, g2, arr, rfl, rfl, k1, k2, k3, HL, HD, ha1, ha2, hb⟩ := hcut
    obtain ⟨w1, hw1⟩ : ∃ w1, w1 = w.alloc (.cells #[.int .i64 W, .int .i64 h, .slice A n c] 24) := ⟨_, rfl⟩
    have hP1 : Cells w1 w.heap.size [.int .i64 W, .int .i64 h, .slice A n c] := by rw [hw1]; exact Cells.new w _ _
    have hB1 : Below w.heap.size w w1 := by rw [hw1]; exact ba1 _ _
    rw [← hw1] at hb
    have HQ := hid hb
    clear hw1 hmk hr hv
    have hPc : Cells wc w.heap.size [.int .i64 W, .int .i64 h, .slice A n c] := hP1.belowB hb (by omega)
    have hg1 := ha1.lt
    have hg2 := ha2.lt
    clear hb
    obtain ⟨p0, p1, p2⟩ := hPc.three
    go_wp2
    go_loopw [5, 20] (fun _ i wr => ∃ (k : Nat) (out : List Int), (k : Int) ≤ h ∧ i = .int .i64 k ∧ Hid (out.length = n) ∧ Hid (SqDone W h xs out k 0) ∧ Arr wr g1 3 .i64 arr ∧ Arr wr g2 3 .i64 out ∧ Below (w.heap.size + 1) w1 wr) (fun _ i _ => (h - intOf i).toNat)
    case atStart => exact ⟨0, _, by omega, rfl, by simp [Hid], SqDone.zero, ha1, ha2, HQ.out⟩
    case round =>
      clear p0 p1 p2 ha1 ha2 hPc HQ hg1 hg2
      obtain ⟨k, out, hk, rfl, HO, HS, hr1, hr2, hbr⟩ := hrel
      obtain ⟨p0, p1, p2⟩ := (hP1.belowB hbr (by omega)).three
      by_cases hlt : (k : Int) < h
      · obtain ⟨y0, y1, y2⟩ := ix_lt (y := k) (x := 0) (W := W) (H := h) (by omega) hlt
        have y3 : ((k : Int) + 1) * W ≤ n := by
          have := Int.mul_le_mul_of_nonneg_right (show (k : Int) + 1 ≤ h by omega) (show 0 ≤ W by omega)
          rw [Int.mul_comm (h : Int) W] at this; omega
        have y4 : 0 ≤ ((k : Int) + 1) * W := Int.mul_nonneg (by omega) (by omega)
        have y5 : (k : Int) * W ≤ ((k : Int) + 1) * W := Int.mul_le_mul_of_nonneg_right (by omega) (by omega)
        go_wp2
        obtain ⟨o, ho⟩ : ∃ o : Nat, o = ((k : Int) * W).toNat := ⟨_, rfl⟩
        obtain ⟨wn, hwn⟩ : ∃ wn : Nat, wn = W.toNat := ⟨_, rfl⟩
        have e6 : (((k : Int) + 1) * W).toNat - ((k : Int) * W).toNat = wn := by rw [Int.add_mul, Int.one_mul] at *; omega
        rw [e6, ← ho]
        have hoW : (o : Int) = (k : Int) * W := by omega
        have hon : o + wn ≤ n := by rw [Int.add_mul, Int.one_mul] at *; omega
        have HoW := hid hoW
        have Hwn := hid hwn
        have hw3 : (wn : Int) ≤ W := by omega
        have hw4 : W ≤ (wn : Int) := by omega
        clear e6 ho hoW hwn
        go_loopw [7, 36] (fun _ i wr => ∃ (x : Nat) (out : List Int), x ≤ wn ∧ i = .int .i64 x ∧ Hid (out.length = n) ∧ Hid (SqDone W h xs out k x) ∧ Arr wr g1 3 .i64 arr ∧ Arr wr g2 3 .i64 out ∧ Below (w.heap.size + 1) w1 wr) (fun _ i _ => wn - (intOf i).toNat)
        case atStart => exact ⟨0, out, by omega, rfl, HO, HS, hr1, hr2, hbr⟩
        case round =>
          clear p0 p1 p2 hr1 hr2 hbr HO HS out
          obtain ⟨x, out, hx, rfl, HO, HS, hr1, hr2, hbr⟩ := hrel
          obtain ⟨p0, p1, p2⟩ := (hP1.belowB hbr (by omega)).three
          by_cases hlx : x < wn
          · have hxW : (x : Int) < W := by omega
            obtain ⟨z0, z1, z2⟩ := ix_lt (y := k) (x := x) (W := W) (H := h) hxW hlt
            have hixn : ix W k x < n := by omega
            have c1 := hr2.cell (j := ix W k x) (by rw [HO.out]; exact hixn)
            have c2 := hr2.frozen (ix W k x)
            have hb0 := bestTo_bd (W := W) (g := fun u => colg W h xs k u) (x := x) (k := 0) hW1 hxW
            obtain ⟨s1, s2⟩ := sq_bd (a := W - x) (b := 64) (by omega) (by omega)
            obtain ⟨s3, s4⟩ := sq_bd (a := (x : Int) + 1) (b := 64) (by omega) (by omega)
            unfold ix at c1 c2
            have Hb0 : Hid (bestTo W (fun u => colg W h xs k u) x 0 = if W - (x : Int) < (x : Int) + 1 then (W - x) * (W - x) else ((x : Int) + 1) * ((x : Int) + 1)) := rfl
            have hcol : ∀ u, u < wn → gi arr (o + u) = colg W h xs k u := by
              intro u hu
              have h1 := HD.out k u (by have := Hwn.out; omega) (by omega)
              rw [show ix W k u = o + u by have h2 := HoW.out; unfold ix; omega] at h1
              exact h1
            have Hcol := hid hcol
            have HS' := hid (SqDone.step HS.out hxW (by rw [HO.out]; exact hixn))
            have HO' : Hid ((out.set (ix W k x) (sqv W h xs k x)).length = n) := by unfold Hid; rw [List.length_set]; exact HO.out
            have HA' := hid (hr2.set (ix W k x) (sqv W h xs k x))
            have HA1 := hid (hr1.far (p := ⟨g2, ix W k x, none⟩) k3 (.int .i64 (sqv W h xs k x)))
            have HB' : Hid (Below (w.heap.size + 1) w1 (wr.setCell ⟨g2, ix W k x, none⟩ (.int .i64 (sqv W h xs k x)))) := hbr.setCell (by simp; omega) _
            clear hcol
            by_cases hside : W - (x : Int) < (x : Int) + 1
            all_goals
              go_wp2
              go_loop [9, 51] (fun l i => ∃ u : Nat, u ≤ wn ∧ i = .int .i64 u ∧ l = .int .i64 (bestTo W (fun u => colg W h xs k u) x u)) (fun _ i => wn - (intOf i).toNat)
              case atStart => exact ⟨0, by omega, rfl, by rw [Hb0.out]; first | rw [if_pos hside] | rw [if_neg (by omega)]⟩
              case round =>
                obtain ⟨u, hu, rfl, rfl⟩ := hrel
                by_cases hlu : u < wn
                · have d1 := hr1.cell (j := o + u) (by rw [HL.out]; omega)
                  rw [Hcol.out u hlu] at d1
                  obtain ⟨e1, e2⟩ := colg_bd (W := W) (xs := xs) (x := u) (show k < h by omega)
                  obtain ⟨e3, e4⟩ := sq_bd (a := colg W h xs k u) (b := 64) (by omega) (by omega)
                  obtain ⟨e5, e6⟩ := sq_bd (a := (x : Int) - u) (b := 64) (by omega) (by omega)
                  go_wp2
                  go_round
                  case rel => exact ⟨u + 1, by omega, by go_num, rfl⟩
                  case measure => simp [intOf]; omega
                · have huW : u = wn := by omega
                  have Hfin : Hid (bestTo W (fun u => colg W h xs k u) x u = sqv W h xs k x) := by
                    unfold Hid sqv; rw [huW, Hwn.out]
                  rw [Hfin.out]
                  unfold ix at HS' HO' HA' HA1 HB'
                  clear huW Hfin
                  go_wp2
                  go_roundw
                  case rel => exact ⟨x + 1, _, by omega, by go_num, HO', HS', HA1.out, HA'.out, HB'.out⟩
                  case measure => simp [intOf]; omega
          · have hxw : x = wn := by omega
            have HS' : Hid (SqDone W h xs out (k + 1) 0) := by
              unfold Hid; apply SqDone.next; have := HS.out; rw [hxw, Hwn.out] at this; exact this
            clear hxw
            go_wp2
            go_roundw
            case rel => exact ⟨k + 1, out, by omega, by go_num, HO, HS', hr1, hr2, hbr⟩
            case measure => simp [intOf]; omega
      · have hkh : k = h := by omega
        have HS' : Hid (SqDone W (Int.toNat (h : Int)) xs out (Int.toNat (h : Int)) 0) := by
          have := HS.out; rw [hkh] at this; exact this
        have HO' : Hid ((out.length : Int) = W * h) := by unfold Hid; rw [HO.out]; omega
        clear hkh
        go_wp2
        go_ret
        exact ⟨g2, out, by omega, rfl, HO.out, SqDone.eq hW0 HS'.out HO'.out, hr2, hB1.trans (hbr.mono (by omega))⟩
end Go.Proofs.Ytpanbblbcnmadaa
