/- Walk: the law DistanceClear. Conditions: as each theorem states. -/
import Derived.Test.YtpanbblbcnmadaaAwake35
import Derived.Test.YtpanbblbcnmadaaMclear
import Derived.Test.YtpanbblbcnmadaaInfl
namespace Go.Proofs.Ytpanbblbcnmadaa
open Go.RowKit

theorem lclear_many (W H x y r2 : Int) (A : Option Addr) (n c : Nat) (w : World) (hm : ¬ (n : Int) ≤ 200) :
    Calls Try.prog 9 #[.agg #[.int .i64 W, .int .i64 H, .slice A n c], .agg #[.int .i64 x, .int .i64 y], .int .i64 r2] w fun e w' => e = .returned (.bool true) ∧ Below w.heap.size w w' := by
  have Hd : Hid (decide ((n : Int) ≤ 200) = false) := decide_eq_false hm
  clear hm
  go_enter Try.func9, Try.ntmps9
  go_wp2_with fail
  refine (awake_any _).mono ?_
  rintro e w1 ⟨rfl, hb1⟩
  obtain ⟨hc1, hf1, hz1⟩ := after hb1
  go_wp2_with fail
  refine (few_any _ _ _ _ _ _).mono ?_
  rw [Hd.out]
  rintro e w2 ⟨rfl, hb2⟩
  go_wp2_with fail
  refine (awake_any _).mono ?_
  rintro e w3 ⟨rfl, hb3⟩
  go_wp2_with fail
  go_ret
  exact ⟨rfl, bstep (bstep (bstep (ba2 _ _ _) hb1) hb2) hb3⟩

set_option maxRecDepth 100000 in
set_option maxHeartbeats 1000000 in
theorem lclear_bad (W H x y r2 : Int) (A : Option Addr) (n c : Nat) (xs : List Int) (w : World) (hn : n = xs.length) (hr : Ints w .u8 A xs) (hm : (n : Int) ≤ 200)
    (hbad : vldB W H xs = false ∨ vldB W H xs = true ∧ ((r2 < 0 ∨ ¬ r2 < 0 ∧ 8192 < r2) ∨ (0 ≤ r2 ∧ r2 ≤ 8192 ∧ inB W H x y = false))) :
    Calls Try.prog 9 #[.agg #[.int .i64 W, .int .i64 H, .slice A n c], .agg #[.int .i64 x, .int .i64 y], .int .i64 r2] w fun e w' => e = .returned (.bool true) ∧ Below w.heap.size w w' := by
  have Hd : Hid (decide ((n : Int) ≤ 200) = true) := decide_eq_true hm
  have key : ∃ (W' H' q1 q2 : Int) (ys : List Int) (cs : List (Int × Int)), ((q1 != 0) = true ∧ (q1 == 0) = false ∧ ys.length = 0 ∨ (q1 != 0) = false ∧ (q1 == 0) = true ∧ (q2 != 0) = true ∧ cs.length = 0) ∧
      (∀ V, Ints V .u8 A xs → Calls Try.prog 24 #[.agg #[.int .i64 W, .int .i64 H, .slice A n c], .int .i64 r2] V (PlanRes W' H' ys q1 V)) ∧
      (∀ V, Ints V .u8 A xs → Calls Try.prog 26 #[.agg #[.int .i64 W, .int .i64 H, .slice A n c], .agg #[.int .i64 x, .int .i64 y], .int .i64 r2] V (PtsRes cs q2 V)) := by
    rcases hbad with hv | ⟨hv, hrg | ⟨h0, h1, hi⟩⟩
    · exact ⟨0, 0, 1, 1, [], [], .inl ⟨rfl, rfl, rfl⟩, fun V h => dinfl_inv _ _ _ _ _ _ xs V hn hv h, fun V h => dwithin_inv _ _ _ _ _ _ _ _ xs V hn hv h⟩
    · cases hi : inB W H x y
      · exact ⟨0, 0, 2, 7, [], [], .inl ⟨rfl, rfl, rfl⟩, fun V h => dinfl_range _ _ _ _ _ _ xs V hn hv h hrg, fun V h => dwithin_out _ _ _ _ _ _ _ _ xs V hn hv hi h⟩
      · exact ⟨0, 0, 2, 2, [], [], .inl ⟨rfl, rfl, rfl⟩, fun V h => dinfl_range _ _ _ _ _ _ xs V hn hv h hrg, fun V h => dwithin_range _ _ _ _ _ _ _ _ xs V hn hv hi h hrg⟩
    · exact ⟨W, H, 0, 7, _, [], .inr ⟨rfl, rfl, rfl, rfl⟩, fun V h => dinfl_t _ _ _ _ _ _ xs V hn hv h h0 h1, fun V h => dwithin_out _ _ _ _ _ _ _ _ xs V hn hv hi h⟩
  obtain ⟨W', H', q1, q2, ys, cs, hq, K1, K2⟩ := key
  have H1 := hid K1
  have H2 := hid K2
  clear hm hn K1 K2 hbad
  obtain ⟨m1, hm1⟩ : ∃ m, m = ys.length := ⟨_, rfl⟩
  obtain ⟨m2, hm2⟩ : ∃ m, m = cs.length := ⟨_, rfl⟩
  rw [← hm1, ← hm2] at hq
  have Hm1 := hid hm1
  have Hm2 := hid hm2
  clear hm1 hm2
  have hq' : ((q1 != 0) = true ∧ (q1 == 0) = false ∧ ((m1 : Int) == 0) = true) ∨ ((q1 != 0) = false ∧ (q1 == 0) = true ∧ (q2 != 0) = true ∧ ((m2 : Int) == 0) = true) := by
    rcases hq with ⟨h1, h2, rfl⟩ | ⟨h1, h2, h3, rfl⟩
    · exact .inl ⟨h1, h2, rfl⟩
    · exact .inr ⟨h1, h2, h3, rfl⟩
  clear hq
  rcases hq' with ⟨h1, h2, h3⟩ | ⟨h1, h2, h4, h3⟩
  all_goals
    go_enter Try.func9, Try.ntmps9
    go_wp2_with fail
    refine (awake_any _).mono ?_
    rintro e w1 ⟨rfl, hb1⟩
    have hP1 := ((Cells.new w [.int .i64 W, .int .i64 H, .slice A n c] 24).alloc (.cells #[.int .i64 x, .int .i64 y] 35)).below hb1
    have hC1 := (Cells.new' (b := w.heap.size + 1) (w.alloc (.cells #[.int .i64 W, .int .i64 H, .slice A n c] 24)) [.int .i64 x, .int .i64 y] 35 (by simp)).below hb1
    obtain ⟨p10, p11, p12⟩ := hP1.three
    go_wp2_with fail
    refine (few_any _ _ _ _ _ _).mono ?_
    rw [Hd.out]
    rintro e w2 ⟨rfl, hb2⟩
    have hB2 := bstep (bstep (ba2 w (.cells #[.int .i64 W, .int .i64 H, .slice A n c] 24) (.cells #[.int .i64 x, .int .i64 y] 35)) hb1) hb2
    have hP2 := hP1.below hb2
    have hC2 := hC1.below hb2
    obtain ⟨p20, p21, p22⟩ := hP2.three
    go_wp2_with fail
    refine (H1.out _ (hr.below hB2)).mono ?_
    rintro e w3 ⟨A3, c3, rfl, hi3, hb3⟩
    rw [← Hm1.out]
    have hP3 := (hP2.below hb3).alloc (.cells #[.int .i64 W', .int .i64 H', .slice A3 m1 c3] 24)
    have hC3 := (hC2.below hb3).alloc (.cells #[.int .i64 W', .int .i64 H', .slice A3 m1 c3] 24)
    have hO3 := Cells.new w3 [.int .i64 W', .int .i64 H', .slice A3 m1 c3] 24
    have hB3 := bstep (bstep hB2 hb3) (ba1 w3 (.cells #[.int .i64 W', .int .i64 H', .slice A3 m1 c3] 24))
    obtain ⟨p30, p31, p32⟩ := hP3.three
    obtain ⟨⟨p33, p34⟩, -⟩ := hC3.two
    go_wp2_with fail
    refine (H2.out _ (hr.below hB3)).mono ?_
    rintro e w4 ⟨A4, c4, rfl, hi4, hb4⟩
    rw [← Hm2.out]
    obtain ⟨p40, p41, p42⟩ := (hO3.below hb4).three
    go_wp2_with fail
    go_ret
    exact ⟨rfl, bstep hB3 hb4⟩

/-- All of the first k cells are free. -/
def clearTo (W H : Int) (xs : List Int) (cs : List (Int × Int)) (k : Nat) : Bool := wclear W H xs (cs.take k)
theorem clearTo_succ {W H : Int} {xs : List Int} {cs : List (Int × Int)} {k : Nat} (h : k < cs.length) : clearTo W H xs cs (k + 1) = (clearTo W H xs cs k && (atI W H xs (g1 cs k) (g2 cs k) == 1)) := by
  unfold clearTo wclear
  rw [List.take_succ_eq_append_getElem h, List.all_append, g1_lt h, g2_lt h]
  simp [freeB]

set_option maxRecDepth 100000 in
set_option maxHeartbeats 2000000 in
theorem lclear_good (W H r2 : Int) (X Y : Nat) (A : Option Addr) (n c : Nat) (xs : List Int) (w : World) (hn : n = xs.length) (hr : Ints w .u8 A xs) (hm : (n : Int) ≤ 200) (hv : vldB W H xs = true) (hi : inB W H X Y = true) (h0 : 0 ≤ r2) (h1 : r2 ≤ 8192) :
    Calls Try.prog 9 #[.agg #[.int .i64 W, .int .i64 H, .slice A n c], .agg #[.int .i64 X, .int .i64 Y], .int .i64 r2] w fun e w' => e = .returned (.bool true) ∧ Below w.heap.size w w' := by
  have hV := vld_iff.1 hv
  have Hd : Hid (decide ((n : Int) ≤ 200) = true) := decide_eq_true hm
  obtain ⟨i1, i2, i3, i4⟩ := inB_iff.1 hi
  have hW1 := hV.w1
  have hH1 := hV.h1
  have Hiff := hid (clear_iff (r2 := r2) hV i2 i4)
  have Hfree := hid (infl_free (r2 := r2) hV i2 i4)
  have HV2 := hid (infl_vld (r2 := r2) hV)
  obtain ⟨cs, hcs⟩ : ∃ cs, cs = wgrid W.toNat X Y r2 H.toNat := ⟨_, rfl⟩
  have hlen : cs.length ≤ 8192 := by
    rw [hcs]
    have l1 := wgrid_len W.toNat X Y r2 H.toNat
    have l2 : H.toNat * W.toNat ≤ 64 * 64 := Nat.mul_le_mul (by omega) (by omega)
    omega
  have K2 := fun V h => dwithin_t W H X Y r2 A n c xs V hn hv hi h h0 h1
  rw [← hcs] at Hiff K2
  obtain ⟨ys, hys⟩ : ∃ ys, ys = infl r2 (sqs W H xs) := ⟨_, rfl⟩
  have K1 := fun V h => dinfl_t W H r2 A n c xs V hn hv h h0 h1
  rw [← hys] at HV2 Hfree K1
  obtain ⟨m1, hm1⟩ : ∃ m, m = ys.length := ⟨_, rfl⟩
  obtain ⟨m2, hm2⟩ : ∃ m, m = cs.length := ⟨_, rfl⟩
  have Hm1 := hid hm1
  have Hm2 := hid hm2
  have Hn := hid hn
  have HV := hid hV
  have H1 := hid K1
  have H2 := hid K2
  rw [← hm2] at hlen
  clear hm hn K1 K2 hcs hys hm1 hm2 hv hi hV
  go_enter Try.func9, Try.ntmps9
  go_wp2_with fail
  refine (awake_any _).mono ?_
  rintro e w1 ⟨rfl, hb1⟩
  have hP1 := ((Cells.new w [.int .i64 W, .int .i64 H, .slice A n c] 24).alloc (.cells #[.int .i64 X, .int .i64 Y] 35)).below hb1
  have hC1 := (Cells.new' (b := w.heap.size + 1) (w.alloc (.cells #[.int .i64 W, .int .i64 H, .slice A n c] 24)) [.int .i64 X, .int .i64 Y] 35 (by simp)).below hb1
  obtain ⟨p10, p11, p12⟩ := hP1.three
  go_wp2_with fail
  refine (few_any _ _ _ _ _ _).mono ?_
  rw [Hd.out]
  rintro e w2 ⟨rfl, hb2⟩
  have hB2 := bstep (bstep (ba2 w (.cells #[.int .i64 W, .int .i64 H, .slice A n c] 24) (.cells #[.int .i64 X, .int .i64 Y] 35)) hb1) hb2
  have hP2 := hP1.below hb2
  have hC2 := hC1.below hb2
  obtain ⟨p20, p21, p22⟩ := hP2.three
  go_wp2_with fail
  refine (H1.out _ (hr.below hB2)).mono ?_
  rintro e w3 ⟨A3, c3, rfl, hi3, hb3⟩
  rw [← Hm1.out]
  have hP3 := (hP2.below hb3).alloc (.cells #[.int .i64 W, .int .i64 H, .slice A3 m1 c3] 24)
  have hC3 := (hC2.below hb3).alloc (.cells #[.int .i64 W, .int .i64 H, .slice A3 m1 c3] 24)
  have hO3 := Cells.new w3 [.int .i64 W, .int .i64 H, .slice A3 m1 c3] 24
  have hB3 := bstep (bstep hB2 hb3) (ba1 w3 (.cells #[.int .i64 W, .int .i64 H, .slice A3 m1 c3] 24))
  obtain ⟨p30, p31, p32⟩ := hP3.three
  obtain ⟨⟨p33, p34⟩, -⟩ := hC3.two
  go_wp2_with fail
  refine (H2.out _ (hr.below hB3)).mono ?_
  rintro e w4 ⟨A4, c4, rfl, hi4, hb4⟩
  rw [← Hm2.out]
  have hP4 := hP3.below hb4
  have hC4 := hC3.below hb4
  have hO4 := hO3.below hb4
  have hB4 := bstep hB3 hb4
  obtain ⟨p40, p41, p42⟩ := hO4.three
  go_wp2_with fail
  refine (rplan_t _ _ _ _ _ ys _ Hm1.out (vld_iff.2 HV2.out) ((hi3.alloc _).below hb4)).mono ?_
  rintro e w5 ⟨rfl, hb5⟩
  have hP5 := hP4.below hb5
  have hC5 := hC4.below hb5
  have hO5 := hO4.below hb5
  have hB5 := bstep hB4 hb5
  have hi5 := ((hi3.alloc (.cells #[.int .i64 W, .int .i64 H, .slice A3 m1 c3] 24)).below hb4).below hb5
  have hL5 := hi4.below hb5
  obtain ⟨p50, p51, p52⟩ := hP5.three
  obtain ⟨p53, p54, p55⟩ := hO5.three
  have hWW : (W != W) = false := by simp
  have hHH : (H != H) = false := by simp
  clear p10 p11 p12 p20 p21 p22 p30 p31 p32 p33 p34 p40 p41 p42 hP1 hC1 hP2 hC2 hP3 hC3 hO3 hP4 hC4 hO4 hb1 hb2 hb3 hb4 hb5 hi3 hi4 hB2 hB3 hB4
  go_wp2_with fail
  go_loopw [11, 12] (fun cl i wr => ∃ k : Nat, k ≤ m2 ∧ i = .int .i64 k ∧ cl = .bool (clearTo W H xs cs k) ∧ Below w5.heap.size w5 wr) (fun _ i _ => m2 - (intOf i).toNat)
  case atStart => exact ⟨0, by omega, rfl, rfl, Below.refl _ _⟩
  case round =>
    clear p50 p51 p52 p53 p54 p55
    obtain ⟨k, hk, rfl, rfl, hbr⟩ := hrel
    obtain ⟨p0, p1, p2⟩ := (hP5.below hbr).three
    by_cases hlt : k < m2
    · obtain ⟨b, off, rfl, hcs⟩ := (hL5.below hbr).open (by rw [← Hm2.out]; omega)
      obtain ⟨d1, d2⟩ := hcs k (by rw [← Hm2.out]; exact hlt)
      have hkI : (k : Int) < m2 := by omega
      have Hs := hid (clearTo_succ (W := W) (H := H) (xs := xs) (cs := cs) (k := k) (by rw [← Hm2.out]; exact hlt))
      have hrr := hr.below (bstep hB5 hbr)
      clear hcs
      cases hcl : clearTo W H xs cs k
      · rw [hcl] at Hs
        go_wp2
        go_quiet (fail)
        go_wp2
        go_roundw
        case rel => exact ⟨k + 1, by omega, by go_num, by rw [Hs.out]; rfl, by first | exact hbr | exact below_drewN' hbr _⟩
        case measure => simp [intOf]; omega
      · rw [hcl] at Hs
        go_wp2
        go_region_with (go_at_call 22; refine (at_any _ _ _ _ _ _ _ xs _ Hn.out HV.out hrr.drew).mono ?_; rintro e w6 ⟨rfl, hb6⟩)
        all_goals
          go_wp2
          go_roundw
          case rel => exact ⟨k + 1, by omega, by go_num, by rw [Hs.out]; rfl, (below_drewN' hbr 1).trans (hb6.mono (by simp; exact hbr.size))⟩
          case measure => simp [intOf]; omega
    · have hkm : Hid (clearTo W H xs cs k = wclear W H xs cs) := by
        unfold Hid clearTo; rw [List.take_of_length_le (by rw [← Hm2.out]; omega)]
      rw [hkm.out]
      obtain ⟨⟨p3, p4⟩, -⟩ := (hC5.below hbr).two
      obtain ⟨o0, o1, o2⟩ := (hO5.below hbr).three
      have hmin := fun (ts : Array TypeId) (t : TypeId) (w : World) => run_min4 (P := Try.prog) W H X Y ts t w
      obtain ⟨mb0, mb1⟩ := min4_bd (W := W) (H := H) (x := X) (y := Y) i1 i2 i3 i4 hW1
      obtain ⟨s1, s2⟩ := sq_bd (a := min4 W H X Y) (b := 64) (by omega) (by omega)
      have hii := hi5.below hbr
      cases hc : wclear W H xs cs
      · have hA : Hid ((atI W H ys X Y == 1) = false) := by
          unfold Hid
          rw [Hfree.out, decide_eq_false_iff_not, Hiff.out, hc]
          rintro ⟨h, _⟩; cases h
        go_wp2_with fail
        refine (at_any _ _ _ _ _ _ _ ys _ Hm1.out HV2.out hii).mono ?_
        rintro e w6 ⟨rfl, hb6⟩
        have hA' := hA.out
        go_wp2_with fail
        go_ret
        exact ⟨rfl, bstep (bstep hB5 hbr) hb6⟩
      · by_cases hs : r2 < min4 W H X Y * min4 W H X Y
        · have hA : Hid ((atI W H ys X Y == 1) = true) := by
            unfold Hid
            rw [Hfree.out, decide_eq_true_iff, Hiff.out, hc]
            exact ⟨rfl, hs⟩
          go_wp2_with fail
          refine (at_any _ _ _ _ _ _ _ ys _ Hm1.out HV2.out hii).mono ?_
          rintro e w6 ⟨rfl, hb6⟩
          have hA' := hA.out
          go_wp2_with fail
          go_ret
          exact ⟨rfl, bstep (bstep hB5 hbr) hb6⟩
        · have hA : Hid ((atI W H ys X Y == 1) = false) := by
            unfold Hid
            rw [Hfree.out, decide_eq_false_iff_not, Hiff.out, hc]
            rintro ⟨_, h⟩; exact hs h
          go_wp2_with fail
          refine (at_any _ _ _ _ _ _ _ ys _ Hm1.out HV2.out hii).mono ?_
          rintro e w6 ⟨rfl, hb6⟩
          have hA' := hA.out
          go_wp2_with fail
          go_ret
          exact ⟨ret_bool (by simp; omega), bstep (bstep hB5 hbr) hb6⟩

theorem lclear_all (W H x y r2 : Int) (A : Option Addr) (n c : Nat) (xs : List Int) (w : World) (hn : n = xs.length) (hr : Ints w .u8 A xs) :
    Calls Try.prog 9 #[.agg #[.int .i64 W, .int .i64 H, .slice A n c], .agg #[.int .i64 x, .int .i64 y], .int .i64 r2] w fun e w' => e = .returned (.bool true) ∧ Below w.heap.size w w' := by
  by_cases hm : (n : Int) ≤ 200
  · cases hv : vldB W H xs
    · exact lclear_bad _ _ _ _ _ _ _ _ xs _ hn hr hm (.inl hv)
    · by_cases hrg : r2 < 0 ∨ ¬ r2 < 0 ∧ 8192 < r2
      · exact lclear_bad _ _ _ _ _ _ _ _ xs _ hn hr hm (.inr ⟨hv, .inl hrg⟩)
      · cases hi : inB W H x y
        · exact lclear_bad _ _ _ _ _ _ _ _ xs _ hn hr hm (.inr ⟨hv, .inr ⟨by omega, by omega, hi⟩⟩)
        · obtain ⟨i1, i2, i3, i4⟩ := inB_iff.1 hi
          obtain ⟨X, rfl⟩ : ∃ X : Nat, x = X := ⟨x.toNat, by omega⟩
          obtain ⟨Y, rfl⟩ : ∃ Y : Nat, y = Y := ⟨y.toNat, by omega⟩
          exact lclear_good _ _ _ _ _ _ _ _ xs _ hn hr hm hv hi (by omega) (by omega)
  · exact lclear_many _ _ _ _ _ _ _ _ _ hm
end Go.Proofs.Ytpanbblbcnmadaa
