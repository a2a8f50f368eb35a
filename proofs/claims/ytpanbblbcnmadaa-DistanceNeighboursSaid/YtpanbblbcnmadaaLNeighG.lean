/- Walk: the law DistanceNeighbours on a valid plan and cells in it. Conditions: as the theorem states. -/
import Derived.Test.YtpanbblbcnmadaaAwake35
import Derived.Test.YtpanbblbcnmadaaMsame
namespace Go.Proofs.Ytpanbblbcnmadaa
open Go.RowKit

theorem size_t (n m : Int) (w : World) (h0 : -1000000 ≤ m) (h1 : m ≤ 1000000) (h2 : -m ≤ n) (h3 : n ≤ m) :
    Calls Try.prog 21 #[.int .i64 n, .int .i64 m] w fun e w' => e = .returned (.bool true) ∧ w = w' := by
  go_enter Try.func21, Try.ntmps21
  go_wp2
  go_ret
  exact ⟨rfl, rfl⟩

set_option maxRecDepth 100000 in
set_option maxHeartbeats 2000000 in
theorem lneigh_good (W H u v : Int) (X Y : Nat) (A : Option Addr) (n c : Nat) (xs : List Int) (w : World) (hn : n = xs.length) (hr : Ints w .u8 A xs) (hm : (n : Int) ≤ 200)
    (hv : vldB W H xs = true) (hi : inB W H X Y = true) (hi2 : inB W H u v = true) :
    Calls Try.prog 5 #[.agg #[.int .i64 W, .int .i64 H, .slice A n c], .agg #[.int .i64 X, .int .i64 Y], .agg #[.int .i64 u, .int .i64 v]] w fun e w' => e = .returned (.bool true) ∧ Below w.heap.size w w' := by
  have hV := vld_iff.1 hv
  have HV := hid hV
  have Hn := hid hn
  have Hd : Hid (decide ((n : Int) ≤ 200) = true) := decide_eq_true hm
  have Hi := hid hi
  have Hi2 := hid hi2
  obtain ⟨⟨a, b, l⟩, hq⟩ : ∃ p, nearI W H xs X Y = p := ⟨_, rfl⟩
  obtain ⟨⟨a2, b2, m⟩, hq2⟩ : ∃ p, nearI W H xs u v = p := ⟨_, rfl⟩
  obtain ⟨n1, ⟨n2, n3, n4, n5⟩, n6, n7, n8⟩ := near_spec hV.w0 hV.h0 hq
  obtain ⟨m1, ⟨m2, m3, m4, m5⟩, m6, m7, m8⟩ := near_spec hV.w0 hV.h0 hq2
  have hle := m8 a b n2 n3 n4 n5 n6
  have hW1 := hV.w1
  have hH1 := hV.h1
  obtain ⟨i1, i2, i3, i4⟩ := inB_iff.1 hi
  obtain ⟨j1, j2, j3, j4⟩ := inB_iff.1 hi2
  obtain ⟨z1, z2, z3, z4, z5, z6, z7, z8, z9⟩ := hV.idx hi
  have hlen := hV.len
  obtain ⟨pp1, pp2, -, -⟩ := hV.pos
  have hval : Hid (gi (sqs W H xs) ((Y : Int) * W + X).toNat = l) := by
    have h1 := sqs_at (W := W) (H := H) (xs := xs) (y := Y) (x := X) i2 i4
    rw [sqv_near hV.w0 i2 (H := H) (h := H.toNat) (by omega) (by omega) hq] at h1
    exact h1
  have hne : ((n : Int) != W * H) = false := by rw [hn, hlen]; simp
  have hfar : (((X : Int) - a) * ((X : Int) - a) + ((Y : Int) - b) * ((Y : Int) - b) == l) = true := by
    rw [← n7]; unfold farI; simp
  have hat : (atI W H xs a b != 1) = true := by
    unfold freeB at n6; simpa [bne] using n6
  unfold farI at hle
  obtain ⟨s1, s2⟩ := sq_bd (a := (X : Int) - a) (b := 100) (by omega) (by omega)
  obtain ⟨s3, s4⟩ := sq_bd (a := (Y : Int) - b) (b := 100) (by omega) (by omega)
  obtain ⟨s5, s6⟩ := sq_bd (a := u - a) (b := 100) (by omega) (by omega)
  obtain ⟨s7, s8⟩ := sq_bd (a := v - b) (b := 100) (by omega) (by omega)
  have hidx : (Y : Int) * W + X < n := by omega
  have HQ := hid hq
  have HQ2 := hid hq2
  have Z5 := hid z5
  clear hq hq2 n7 m7 n8 m8 n6 m6 hlen hn hm hv hi hi2 hV z5
  go_enter Try.func5, Try.ntmps5
  go_wp2_with fail
  refine (awake_any _).mono ?_
  rintro e w1 ⟨rfl, hb1⟩
  have hP1 := (((Cells.new w [.int .i64 W, .int .i64 H, .slice A n c] 24).alloc (.cells #[.int .i64 X, .int .i64 Y] 35)).alloc (.cells #[.int .i64 u, .int .i64 v] 35)).below hb1
  have hC1 := ((Cells.new' (b := w.heap.size + 1) (w.alloc (.cells #[.int .i64 W, .int .i64 H, .slice A n c] 24)) [.int .i64 X, .int .i64 Y] 35 (by simp)).alloc (.cells #[.int .i64 u, .int .i64 v] 35)).below hb1
  have hD1 := (Cells.new' (b := w.heap.size + 1 + 1) ((w.alloc (.cells #[.int .i64 W, .int .i64 H, .slice A n c] 24)).alloc (.cells #[.int .i64 X, .int .i64 Y] 35)) [.int .i64 u, .int .i64 v] 35 (by simp)).below hb1
  obtain ⟨p10, p11, p12⟩ := hP1.three
  go_wp2_with fail
  refine (few_any _ _ _ _ _ _).mono ?_
  rw [Hd.out]
  rintro e w2 ⟨rfl, hb2⟩
  have hB2 := bstep (bstep (ba3 w (.cells #[.int .i64 W, .int .i64 H, .slice A n c] 24) (.cells #[.int .i64 X, .int .i64 Y] 35) (.cells #[.int .i64 u, .int .i64 v] 35)) hb1) hb2
  have hr2 : Ints w2 .u8 A xs := hr.below hB2
  obtain ⟨p20, p21, p22⟩ := (hP1.below hb2).three
  go_wp2_with fail
  refine (dsquares_t _ _ _ _ _ xs _ Hn.out HV.out hr2).mono ?_
  rintro e w3 ⟨g, arr, hg, rfl, hl3, hR3, harr, hb3⟩
  subst hR3
  clear hl3
  have hP3 := (hP1.below hb2).below hb3
  have hC3 := (hC1.below hb2).below hb3
  have hD3 := (hD1.below hb2).below hb3
  obtain ⟨p30, p31, p32⟩ := hP3.three
  obtain ⟨⟨p33, p34⟩, -⟩ := hC3.two
  go_wp2_with fail
  refine (dnear_any _ _ _ _ _ _ _ xs _ Hn.out HV.out Hi.out (hr2.below hb3)).mono ?_
  rintro e w4 ⟨a', b', l', hq', rfl, hb4⟩
  rw [HQ.out] at hq'
  injection hq' with h1 h2
  injection h2 with h2 h3
  subst h1 h2 h3
  have hP4 := (hP3.below hb4).alloc (.cells #[.int .i64 a, .int .i64 b] 35)
  have hC4 := (hC3.below hb4).alloc (.cells #[.int .i64 a, .int .i64 b] 35)
  have hD4 := (hD3.below hb4).alloc (.cells #[.int .i64 a, .int .i64 b] 35)
  have hE4 := Cells.new w4 [.int .i64 a, .int .i64 b] 35
  obtain ⟨p40, p41, p42⟩ := hP4.three
  obtain ⟨⟨p43, p44⟩, -⟩ := hD4.two
  go_wp2_with fail
  refine (dnear_any _ _ _ _ _ _ _ xs _ Hn.out HV.out Hi2.out (((hr2.below hb3).below hb4).alloc _)).mono ?_
  rintro e w5 ⟨a', b', l', hq', rfl, hb5⟩
  rw [HQ2.out] at hq'
  injection hq' with h1 h2
  injection h2 with h2 h3
  subst h1 h2 h3
  have hP5 := (hP4.below hb5).alloc (.cells #[.int .i64 a2, .int .i64 b2] 35)
  have hC5 := (hC4.below hb5).alloc (.cells #[.int .i64 a2, .int .i64 b2] 35)
  have hD5 := (hD4.below hb5).alloc (.cells #[.int .i64 a2, .int .i64 b2] 35)
  have hE5 := (hE4.below hb5).alloc (.cells #[.int .i64 a2, .int .i64 b2] 35)
  have hS5 := (((harr.below hb4).alloc (.cells #[.int .i64 a, .int .i64 b] 35)).below hb5).alloc (.cells #[.int .i64 a2, .int .i64 b2] 35)
  have hB5 := bstep (bstep (bstep (bstep (bstep hB2 hb3) hb4) (ba1 _ (.cells #[.int .i64 a, .int .i64 b] 35))) hb5) (ba1 _ (.cells #[.int .i64 a2, .int .i64 b2] 35))
  have hc5 := hS5.cell (j := ((Y : Int) * W + X).toNat) (by rw [sqs_len]; omega)
  rw [hval.out] at hc5
  obtain ⟨p50, p51, p52⟩ := hP5.three
  obtain ⟨⟨p53, p54⟩, -⟩ := hC5.two
  obtain ⟨⟨p55, p56⟩, -⟩ := hD5.two
  obtain ⟨⟨p57, p58⟩, -⟩ := hE5.two
  clear hP1 hC1 hD1 hP3 hC3 hD3 hP4 hC4 hD4 hE4 hP5 hC5 hD5 hE5 hS5 harr p10 p11 p12 p20 p21 p22 p30 p31 p32 p33 p34 p40 p41 p42 p43 p44
  go_wp2_with fail
  refine (size_t a 100 _ (by omega) (by omega) (by omega) (by omega)).mono ?_
  rintro e w6 ⟨rfl, rfl⟩
  go_wp2_with fail
  refine (size_t b 100 _ (by omega) (by omega) (by omega) (by omega)).mono ?_
  rintro e w6 ⟨rfl, rfl⟩
  go_wp2_with fail
  refine (at_any _ _ _ _ _ _ _ xs _ Hn.out HV.out (hr.below hB5)).mono ?_
  rintro e w7 ⟨rfl, hb7⟩
  go_wp2_with fail
  go_ret
  exact ⟨rfl, bstep hB5 hb7⟩

end Go.Proofs.Ytpanbblbcnmadaa
