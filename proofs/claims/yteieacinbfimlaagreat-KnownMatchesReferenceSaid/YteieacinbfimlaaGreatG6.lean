/- Proved: the law KnownMatchesReference returns true on every input, and its arguments read afterwards as before. Conditions: none beyond the given row's. -/
import Derived.Test.YteieacinbfimlaaGreatG5
import Derived.Test.YteieacinbfimlaaGreatG4
import Derived.Test.YteieacinbfimlaaGreatG3
namespace Go.Proofs.YteieacinbfimlaaGreat
set_option linter.unusedSimpArgs false
set_option linter.unusedVariables false
open Go.RowKit
set_option maxHeartbeats 4000000
set_option maxRecDepth 100000
theorem times_t (H : AHeap) (px py vx vy vd x0 y0 x1 y1 : Int) (hg : thG px py vx vy vd x0 y0 x1 y1 = true) (h : tmE px py vx vy x0 y0 x1 y1 = true) : ACalls Tryz.prog 281 [.agg [.int .i64 px, .int .i64 py], .agg [.int .i64 vx, .int .i64 vy, .int .i64 vd], .agg [.int .i64 x0, .int .i64 y0, .int .i64 x1, .int .i64 y1]] H (fun v H' => v = .agg [.int .i64 0, .int .i64 0, .int .i64 0, .int .i64 0, .bool true, .bool false] ∧ H' = H) := by
  have q := times_c H px py vx vy vd x0 y0 x1 y1 hg
  simp only [tiV, h, if_true] at q; exact q
theorem times_f (H : AHeap) (px py vx vy vd x0 y0 x1 y1 : Int) (hg : thG px py vx vy vd x0 y0 x1 y1 = true) (h : tmE px py vx vy x0 y0 x1 y1 = false) : ACalls Tryz.prog 281 [.agg [.int .i64 px, .int .i64 py], .agg [.int .i64 vx, .int .i64 vy, .int .i64 vd], .agg [.int .i64 x0, .int .i64 y0, .int .i64 x1, .int .i64 y1]] H (fun v H' => v = .agg [.int .i64 (tmS px py vx vy x0 y0 x1 y1).1.1, .int .i64 (tmS px py vx vy x0 y0 x1 y1).1.2, .int .i64 (tmS px py vx vy x0 y0 x1 y1).2.1, .int .i64 (tmS px py vx vy x0 y0 x1 y1).2.2, .bool false, .bool false] ∧ H' = H) := by
  have q := times_c H px py vx vy vd x0 y0 x1 y1 hg
  simp only [tiV, h, if_false, Bool.false_eq_true] at q; exact q
theorem gcd5_n (H : AHeap) (a0 : Nat) (b0 : Nat) : ACalls Tryz.prog 323 [.int .i64 ((a0 : Nat) : Int), .int .i64 ((b0 : Nat) : Int)] H (fun v H' => v = .int .i64 ((Nat.gcd a0 b0 : Nat) : Int) ∧ H' = H) := by
  refine AcT true Tryz.func323 ?_; intro hbel Q hQ
  have g'1 := @rem_nat
  refine runTf g'1 ?_
  refine go_loop try_mixed (by kernel_rfl) (fun k F Hx => ∃ a : Nat, ∃ b : Nat, b = k ∧ Nat.gcd a b = Nat.gcd a0 b0 ∧ F = [(0, .int .i64 ((a : Nat) : Int)), (1, .int .i64 ((b : Nat) : Int))] ∧ H = Hx) (b0) ?_ ?_
  · refine ⟨_, _, _, ⟨a0, b0, by omega, rfl, rfl, rfl⟩, Abs.by0 hbel ?_⟩
    exact absW
  · rintro k0 F Hx ⟨a, b, hm0, hG, rfl, rfl⟩ J0 hJ0
    refine runTf g'1 ?_
    refine cond_split (fun h1 => ?_) (fun h1 => ?_)
    · have h1d := bsT h1
      have hlt : a % b < b := Nat.mod_lt _ (by omega)
      have g'2 := (jn @h1 (jn @h1d g'1))
      refine runTf g'2 ?_
      refine hJ0 _ _ ⟨a % b, by omega, _, _, _, ⟨b, a % b, by omega, by rw [← hG, gcd_step], rfl, rfl⟩, Abs.by0 hbel ?_⟩
      exact absW
    · have h1d := bsT h1
      obtain rfl : b = 0 := by omega
      rw [Nat.gcd_zero_right] at hG
      have hfing := hG
      have g'3 := (jn @h1 (jn @h1d g'1))
      refine runTf g'3 ?_
      exact hQ _ _ (end_plain0 (.inl rfl) hbel (x := .int .i64 ((a : Nat) : Int)) (resT Tryz.results323) rfl ⟨congrArg (AV.int .i64) (by rw [hfing]), rfl⟩)
theorem gcd5_x (H : AHeap) (n d : Int) (hn : 0 ≤ n) (hd : 0 ≤ d) : ACalls Tryz.prog 323 [.int .i64 n, .int .i64 d] H (fun v H' => v = .int .i64 ((Int.gcd n d : Nat) : Int) ∧ H' = H) := by
  obtain ⟨a, rfl⟩ := Int.eq_ofNat_of_zero_le hn
  obtain ⟨b, rfl⟩ := Int.eq_ofNat_of_zero_le hd
  exact gcd5_n H a b
theorem low5_c (H : AHeap) (n : Int) (d : Int) (hn : 0 ≤ n ∧ n ≤ 4611686018427387904) (hd : 0 < d ∧ d ≤ 4611686018427387904) : ACalls Tryz.prog 282 [.int .i64 n, .int .i64 d] H (fun v H' => v = .agg [.int .i64 (lwN n d), .int .i64 (lwD n d)] ∧ H' = H) := by
  have hg0 := gcd_pos (n := n) hd.1
  have t1 := tdiv_bd (a := n) (b := ((Int.gcd n d : Nat) : Int)) hg0 (by omega)
  have t2 := tdiv_bd (a := d) (b := ((Int.gcd n d : Nat) : Int)) hg0 (by omega)
  have hlw := lw_tdiv hn.1 hd.1
  refine AcT true Tryz.func282 ?_; intro hbel Q hQ
  refine runT ?_
  refine call_v (by kernel_rfl) (gcd5_x _ n d (by omega) (by omega)) ?_
  refine runT ?_
  exact hQ _ _ (end_plain (.inl rfl) hbel (x := .agg [.int .i64 (Int.tdiv n ((Int.gcd n d : Nat) : Int)), .int .i64 (Int.tdiv d ((Int.gcd n d : Nat) : Int))]) (resT Tryz.results282) rfl ⟨by rw [hlw.1, hlw.2], rfl⟩)
theorem r5ok_c (H : AHeap) (px : Int) (py : Int) (vx : Int) (vy : Int) (vd : Int) (x0 : Int) (y0 : Int) (x1 : Int) (y1 : Int) : ACalls Tryz.prog 280 [.agg [.int .i64 px, .int .i64 py], .agg [.int .i64 vx, .int .i64 vy, .int .i64 vd], .agg [.int .i64 x0, .int .i64 y0, .int .i64 x1, .int .i64 y1]] H (fun v H' => v = .bool (thG px py vx vy vd x0 y0 x1 y1) ∧ H' = H) := by
  refine AcT true Tryz.func280 ?_; intro hbel Q hQ
  refine runT ?_
  refine call_v (by kernel_rfl) (r5pt_c _ px py) ?_
  refine runT ?_
  refine gd_split (fun h1 => ?_) (fun h1 => ?_)
  · have h1d := bsT h1
    have g'4 := (jn @h1 @h1d)
    refine runTf g'4 ?_
    refine call_v (by kernel_rfl) (bvec_c _ vx vy vd) ?_
    refine runTf g'4 ?_
    refine gd_split (fun h2 => ?_) (fun h2 => ?_)
    · have h2d := bsT h2
      have g'5 := (jn @h2 (jn @h2d g'4))
      refine runTf g'5 ?_
      refine call_v (by kernel_rfl) (r5rc_c _ x0 y0 x1 y1) ?_
      refine runTf g'5 ?_
      exact hQ _ _ (end_plain (.inl rfl) hbel (x := .bool (lnR x0 y0 x1 y1)) (resT Tryz.results280) rfl ⟨by simp [thG, h1d, h2d], rfl⟩)
    · have h2d := bsT h2
      have g'6 := (jn @h2 (jn @h2d g'4))
      refine runTf g'6 ?_
      exact hQ _ _ (end_plain (.inl rfl) hbel (x := .bool false) (resT Tryz.results280) rfl ⟨by simp [thG, h1d, h2d], rfl⟩)
  · have h1d := bsT h1
    have g'7 := (jn @h1 @h1d)
    refine runTf g'7 ?_
    exact hQ _ _ (end_plain (.inl rfl) hbel (x := .bool false) (resT Tryz.results280) rfl ⟨by simp [thG, h1d], rfl⟩)
theorem renter_c (H : AHeap) (px : Int) (py : Int) (vx : Int) (vy : Int) (vd : Int) (x0 : Int) (y0 : Int) (x1 : Int) (y1 : Int) : ACalls Tryz.prog 226 [.agg [.int .i64 px, .int .i64 py], .agg [.int .i64 vx, .int .i64 vy, .int .i64 vd], .agg [.int .i64 x0, .int .i64 y0, .int .i64 x1, .int .i64 y1]] H (fun v H' => v = .tup [.agg [.int .i64 (mkV (rO px py vx vy vd x0 y0 x1 y1) (enN px py vx vy vd x0 y0 x1 y1)), .int .i64 (mkV (rO px py vx vy vd x0 y0 x1 y1) (enD px py vx vy vd x0 y0 x1 y1))], .bool (rO px py vx vy vd x0 y0 x1 y1)] ∧ H' = H) := by
  refine AcT true Tryz.func226 ?_; intro hbel Q hQ
  refine runT ?_
  refine call_v (by kernel_rfl) (r5ok_c _ px py vx vy vd x0 y0 x1 y1) ?_
  refine runT ?_
  refine cond_split (fun h1 => ?_) (fun h1 => ?_)
  · have h1d := bsT h1
    have hfinO : rO px py vx vy vd x0 y0 x1 y1 = false := by unfold rO; rw [h1d]; rfl
    have g'8 := (jn @h1 @h1d)
    refine runTf g'8 ?_
    exact hQ _ _ (end_plain (.inl rfl) hbel (x := .tup [.agg [.int .i64 0, .int .i64 0], .bool false]) (resT Tryz.results226) rfl ⟨by unfold mkV; rw [hfinO]; rfl, rfl⟩)
  · have h1d := bsT h1
    have hg := h1d
    have hbd := tmS_bd hg
    obtain ⟨⟨hb1, hb2⟩, hb3, hb4⟩ := hbd
    have hvv := vecB_iff.1 (thG_iff.1 hg).2.1
    have hm1 := mul_bd (a := (tmS px py vx vy x0 y0 x1 y1).1.1) (b := vd) (A := 8388608) (B := 67108864) (by omega) (by omega)
    have hm2 := mul_bd (a := (tmS px py vx vy x0 y0 x1 y1).2.1) (b := vd) (A := 8388608) (B := 67108864) (by omega) (by omega)
    have hn1 := Int.mul_nonneg (tmS_nn (px := px) (py := py) (vx := vx) (vy := vy) (x0 := x0) (y0 := y0) (x1 := x1) (y1 := y1)) (show 0 ≤ vd by omega)
    have g'9 := (jn @h1 @h1d)
    refine runTf g'9 ?_
    rcases Bool.eq_false_or_eq_true (tmE px py vx vy x0 y0 x1 y1) with h2 | h2
    · have h2d := h2
      have hfinO : rO px py vx vy vd x0 y0 x1 y1 = false := by unfold rO; rw [h2d]; simp
      refine call_v (by kernel_rfl) (times_t _ px py vx vy vd x0 y0 x1 y1 (by assumption) (by assumption)) ?_
      have g'10 := (jn @h2 (jn @h2d g'9))
      refine runTf g'10 ?_
      exact hQ _ _ (end_plain (.inl rfl) hbel (x := .tup [.agg [.int .i64 0, .int .i64 0], .bool false]) (resT Tryz.results226) rfl ⟨by unfold mkV; rw [hfinO]; rfl, rfl⟩)
    · have h2d := h2
      have hfinO : rO px py vx vy vd x0 y0 x1 y1 = true := by unfold rO; rw [h2d, hg]; rfl
      have hn2 := Int.mul_nonneg (tmS_hn hg h2d) (show 0 ≤ vd by omega)
      refine call_v (by kernel_rfl) (times_f _ px py vx vy vd x0 y0 x1 y1 (by assumption) (by assumption)) ?_
      have g'11 := (jn @h2 (jn @h2d g'9))
      refine runTf g'11 ?_
      refine call_v (by kernel_rfl) (low5_c _ (((tmS px py vx vy x0 y0 x1 y1).1.1) * vd) ((tmS px py vx vy x0 y0 x1 y1).1.2) (by omega) (by omega)) ?_
      refine runTf g'11 ?_
      exact hQ _ _ (end_plain (.inl rfl) hbel (x := .tup [.agg [.int .i64 (lwN (((tmS px py vx vy x0 y0 x1 y1).1.1) * vd) ((tmS px py vx vy x0 y0 x1 y1).1.2)), .int .i64 (lwD (((tmS px py vx vy x0 y0 x1 y1).1.1) * vd) ((tmS px py vx vy x0 y0 x1 y1).1.2))], .bool true]) (resT Tryz.results226) rfl ⟨by unfold mkV; rw [hfinO]; rfl, rfl⟩)
theorem renter_t (H : AHeap) (px py vx vy vd x0 y0 x1 y1 : Int) (h : rO px py vx vy vd x0 y0 x1 y1 = true) : ACalls Tryz.prog 226 [.agg [.int .i64 px, .int .i64 py], .agg [.int .i64 vx, .int .i64 vy, .int .i64 vd], .agg [.int .i64 x0, .int .i64 y0, .int .i64 x1, .int .i64 y1]] H (fun v H' => v = .tup [.agg [.int .i64 (enN px py vx vy vd x0 y0 x1 y1), .int .i64 (enD px py vx vy vd x0 y0 x1 y1)], .bool true] ∧ H' = H) := by
  have q := renter_c H px py vx vy vd x0 y0 x1 y1
  simp only [h, mkV, if_true] at q; exact q
theorem renter_f (H : AHeap) (px py vx vy vd x0 y0 x1 y1 : Int) (h : rO px py vx vy vd x0 y0 x1 y1 = false) : ACalls Tryz.prog 226 [.agg [.int .i64 px, .int .i64 py], .agg [.int .i64 vx, .int .i64 vy, .int .i64 vd], .agg [.int .i64 x0, .int .i64 y0, .int .i64 x1, .int .i64 y1]] H (fun v H' => v = .tup [.agg [.int .i64 0, .int .i64 0], .bool false] ∧ H' = H) := by
  have q := renter_c H px py vx vy vd x0 y0 x1 y1
  simp only [h, mkV, if_false, Bool.false_eq_true] at q; exact q
theorem rbefore_c (H : AHeap) (px : Int) (py : Int) (vx : Int) (vy : Int) (vd : Int) (hi : Int) (x0 : Int) (y0 : Int) (x1 : Int) (y1 : Int) : ACalls Tryz.prog 150 [.agg [.int .i64 px, .int .i64 py], .agg [.int .i64 vx, .int .i64 vy, .int .i64 vd], .int .i64 hi, .agg [.int .i64 x0, .int .i64 y0, .int .i64 x1, .int .i64 y1]] H (fun v H' => v = .bool (sbfB px py vx vy vd hi x0 y0 x1 y1) ∧ H' = H) := by
  refine AcT true Tryz.func150 ?_; intro hbel Q hQ
  refine runT ?_
  refine gd_split (fun h1 => ?_) (fun h1 => ?_)
  · have h1d := bsT h1
    have g'26 := (jn @h1 @h1d)
    refine runTf g'26 ?_
    refine cond_split (fun h2 => ?_) (fun h2 => ?_)
    · have h2d := bsT h2
      have g'27 := (jn @h2 (jn @h2d g'26))
      refine runTf g'27 ?_
      exact hQ _ _ (end_plain (.inl rfl) hbel (x := .bool false) (resT Tryz.results150) rfl ⟨by first | (rw [hfinN.2]; done) | (refine congrArg AV.bool ?_; rw [Bool.eq_iff_iff, sbf_ref]; unfold rbefB; simp only [Bool.and_eq_true, decide_eq_true_eq, Bool.not_eq_true']; first | (simp only [hfinG, hfinE, true_and]; have e1 := (hel hi).2.1; omega) | exact ⟨fun e => (by cases e), fun e => (by first | omega | (have e1 := (hel hi).2.1; omega))⟩), rfl⟩)
    · have h2d := bsT h2
      have g'28 := (jn @h2 (jn @h2d g'26))
      refine runTf g'28 ?_
      rcases Bool.eq_false_or_eq_true (rO px py vx vy vd x0 y0 x1 y1) with h3 | h3
      · have h3d := h3
        have hrO := h3d
        have heb := en_bd hrO
        obtain ⟨⟨hb1, hb2⟩, hb3, hb4⟩ := heb
        have hfinG := (rO_t hrO).1
        have hfinE := (rO_t hrO).2
        have hm1 := mul_bd (a := hi) (b := enD px py vx vy vd x0 y0 x1 y1) (A := 65536) (B := 67108864) (by omega) (by omega)
        have hel := fun z => en_le (hi := z) hrO
        refine call_v (by kernel_rfl) (renter_t _ px py vx vy vd x0 y0 x1 y1 (by assumption)) ?_
        have g'29 := (jn @h3 (jn @h3d g'28))
        refine runTf g'29 ?_
        exact hQ _ _ (end_plain (.inl rfl) hbel (x := .bool (decide ((enN px py vx vy vd x0 y0 x1 y1) < (hi * (enD px py vx vy vd x0 y0 x1 y1))))) (resT Tryz.results150) rfl ⟨by first | (rw [hfinN.2]; done) | (refine congrArg AV.bool ?_; rw [Bool.eq_iff_iff, sbf_ref]; unfold rbefB; simp only [Bool.and_eq_true, decide_eq_true_eq, Bool.not_eq_true']; first | (simp only [hfinG, hfinE, true_and]; have e1 := (hel hi).2.1; omega) | exact ⟨fun e => (by cases e), fun e => (by first | omega | (have e1 := (hel hi).2.1; omega))⟩), rfl⟩)
      · have h3d := h3
        have hfinN := rO_me (lo := 0) (hi := hi) h3d
        refine call_v (by kernel_rfl) (renter_f _ px py vx vy vd x0 y0 x1 y1 (by assumption)) ?_
        have g'30 := (jn @h3 (jn @h3d g'28))
        refine runTf g'30 ?_
        exact hQ _ _ (end_plain (.inl rfl) hbel (x := .bool false) (resT Tryz.results150) rfl ⟨by first | (rw [hfinN.2]; done) | (refine congrArg AV.bool ?_; rw [Bool.eq_iff_iff, sbf_ref]; unfold rbefB; simp only [Bool.and_eq_true, decide_eq_true_eq, Bool.not_eq_true']; first | (simp only [hfinG, hfinE, true_and]; have e1 := (hel hi).2.1; omega) | exact ⟨fun e => (by cases e), fun e => (by first | omega | (have e1 := (hel hi).2.1; omega))⟩), rfl⟩)
  · have h1d := bsT h1
    have g'31 := (jn @h1 @h1d)
    refine runTf g'31 ?_
    exact hQ _ _ (end_plain (.inl rfl) hbel (x := .bool false) (resT Tryz.results150) rfl ⟨by first | (rw [hfinN.2]; done) | (refine congrArg AV.bool ?_; rw [Bool.eq_iff_iff, sbf_ref]; unfold rbefB; simp only [Bool.and_eq_true, decide_eq_true_eq, Bool.not_eq_true']; first | (simp only [hfinG, hfinE, true_and]; have e1 := (hel hi).2.1; omega) | exact ⟨fun e => (by cases e), fun e => (by first | omega | (have e1 := (hel hi).2.1; omega))⟩), rfl⟩)
open Go.RowKit
theorem proves_c (H : AHeap) (s : AV) (l : List T6) (m : Int) (r : Int) (g : Int) (c1 : Int) (c2 : Int) (hs : Sl H 6 s l.length (r6 l)) (hS : setB l = true) (hm : 0 ≤ m ∧ m ≤ 255) (hr : -1 ≤ r ∧ r ≤ 1024) (hg : 1 ≤ g ∧ g ≤ 32) (hc1 : 0 ≤ c1 ∧ c1 ≤ 63) (hc2 : 0 ≤ c2 ∧ c2 ≤ 63) : ACalls Tryz.prog 71 [s, .agg [.int .i64 m, .int .i64 r], .int .i64 g, .agg [.int .i64 c1, .int .i64 c2]] H (fun v H' => v = .bool (prvE l g (m, r) (c1, c2)) ∧ H' = H) := by
  obtain ⟨bs, os, cs, rfl, hbs⟩ := hs
  have hbls := getElem?_lt hbs
  have hb0s := fun l => get_app (l := l) hbs
  have hl := setB_len hS
  refine AcL true Tryz.func71 ?_; intro hbel Q hQ
  have g'1 := (jn @hbs @hb0s)
  refine runTf g'1 ?_
  refine cond_split (fun h1 => ?_) (fun h1 => ?_)
  · have h1d := bsT h1
    have hff : farF r g = 1024 - g := if_pos (by omega)
    have g'2 := (jn @h1 (jn @h1d g'1))
    refine runTf g'2 ?_
    refine go_loopA (fun k F Hx => ∃ i : Nat, i + k = l.length ∧ (∀ e ∈ dirS l m i, psC e (farF r g) (c1, c2) = true) ∧ F = [(0, .sl (some (bs, 0)) l.length cs), (5, .ptr (some (H.length, 0))), (7, .ptr (some (H.length + 1, 0))), (9, .int .i64 (1024 - g)), (10, .int .i64 ((i : Nat) : Int))] ∧ Hx = H ++ [.cells true 0 [.int .i64 m, .int .i64 r], .cells true 0 [.int .i64 c1, .int .i64 c2]]) (l.length) ?_ ?_
    · refine ⟨_, _, _, ⟨0, by omega, (fun e he => (by cases he)), rfl, rfl⟩, Abs.byG hbel [] rfl [0, 1] (by decide) ?_⟩
      exact absW
    · rintro k0 F Hx ⟨i, hm0, hA, rfl, rfl⟩ Q1 hJ0 hr1 he1
      have hQ1 := fun F H' h => hr1 F H' (hQ F H' h)
      refine AW_seqQ fun Q2 hn2 hr2 he2 => ?_
      have hQ2 := fun F H' h => hr2 F H' (hQ1 F H' h)
      refine AW_fin true try_mixed (by kernel_rfl) ?_
      refine runTf g'2 ?_
      refine cond_split (fun h2 => ?_) (fun h2 => ?_)
      · have h2d := bsT h2
        have hlt : i < l.length := by omega
        have hml := mkB_len hS hlt
        have hbb := bxB_iff.1 ((setB_iff.1 hS).2 _ (g6_mem hlt))
        have hbd : (0 ≤ g65 l i ∧ g65 l i ≤ 255) ∧ (1 ≤ g66 l i ∧ g66 l i ≤ 256) := by
          have q1 : 0 ≤ g65 l i ∧ g65 l i < 256 := (arcB_iff.1 hbb.2.2).1
          have q2 : 1 ≤ g66 l i ∧ g66 l i ≤ 256 := (arcB_iff.1 hbb.2.2).2.1
          omega
        have g'3 := (jn @h2 (jn @h2d g'2))
        refine runTf g'3 ?_
        refine hn2 _ _ ?_
        refine AW_seqQ fun Q3 hn3 hr3 he3 => ?_
        have hQ3 := fun F H' h => hr3 F H' (hQ1 F H' h)
        refine AW_blockQ fun Q4 hn4 hr4 he4 hb4 => ?_
        have hQ4 := fun F H' h => hr4 F H' (hQ3 F H' h)
        refine AW_seqQ fun Q5 hn5 hr5 he5 => ?_
        have hQ5 := fun F H' h => hr5 F H' (hQ4 F H' h)
        refine AW_fin true try_mixed (by kernel_rfl) ?_
        have q3 := r6_at0 (l := l) (j := i) (by omega)
        have q4 := r6_at2 (l := l) (j := i) (by omega)
        have q5 := r6_at0 (l := l) (j := i) (by omega)
        have q6 := r6_at2 (l := l) (j := i) (by omega)
        have g'4 := (jn @r6_len (jn @q3 (jn @q4 (jn @q5 (jn @q6 g'3)))))
        refine runTf g'4 ?_
        refine hn5 _ _ ?_
        refine AW_seqQ fun Q6 hn6 hr6 he6 => ?_
        have hQ6 := fun F H' h => hr6 F H' (hQ4 F H' h)
        refine AW_fin true try_mixed (by kernel_rfl) ?_
        have q7 := r6_at1 (l := l) (j := i) (by omega)
        have q8 := r6_at1 (l := l) (j := i) (by omega)
        have q9 := r6_at3 (l := l) (j := i) (by omega)
        have q10 := r6_at3 (l := l) (j := i) (by omega)
        have g'5 := (jn @q7 (jn @q8 (jn @q9 (jn @q10 g'4))))
        refine runTf g'5 ?_
        refine hn6 _ _ ?_
        refine AW_seqQ fun Q7 hn7 hr7 he7 => ?_
        have hQ7 := fun F H' h => hr7 F H' (hQ4 F H' h)
        refine AW_fin true try_mixed (by kernel_rfl) ?_
        refine runTf g'5 ?_
        refine hn7 _ _ ?_
        refine AW_blockQ fun Q8 hn8 hr8 he8 hb8 => ?_
        have hQ8 := fun F H' h => hr8 F H' (hQ4 F H' h)
        refine AW_loopA (fun k F Hx => ∃ j : Nat, j + k = (mkB (g6 l i)).length ∧ (∀ e ∈ dirB (g6 l i) m j, psC e (farF r g) (c1, c2) = true) ∧ F = [(0, .sl (some (bs, 0)) l.length cs), (5, .ptr (some (H.length, 0))), (7, .ptr (some (H.length + 1, 0))), (9, .int .i64 (1024 - g)), (10, .int .i64 ((i : Nat) : Int)), (11, .sl (some (H.length + 2, 0)) 4 (some 4)), (12, .sl (some (H.length + 3, 0)) 4 (some 4)), (13, .int .i64 ((j : Nat) : Int))] ∧ Hx = H ++ [.cells true 0 [.int .i64 m, .int .i64 r], .cells true 0 [.int .i64 c1, .int .i64 c2], .cells true 1 [.int .i64 (g61 l i), .int .i64 (g63 l i), .int .i64 (g61 l i), .int .i64 (g63 l i)], .cells true 1 [.int .i64 (g62 l i), .int .i64 (g62 l i), .int .i64 (g64 l i), .int .i64 (g64 l i)]]) ((mkB (g6 l i)).length) ?_ ?_
        · refine ⟨_, _, _, ⟨0, by omega, (fun e he => (by cases he)), rfl, rfl⟩, Abs.byG hbel [] rfl [0, 1, 2, 3] (by decide) ?_⟩
          exact absW
        · rintro k1 F Hx ⟨j, hm1, hB, rfl, rfl⟩ Q9 hJ1 hr9 he9
          have hQ9 := fun F H' h => hr9 F H' (hQ8 F H' h)
          refine AW_seqQ fun Q10 hn10 hr10 he10 => ?_
          have hQ10 := fun F H' h => hr10 F H' (hQ9 F H' h)
          refine AW_fin true try_mixed (by kernel_rfl) ?_
          have q11 := r6_at5 (l := l) (j := i) (by omega)
          have g'6 := (jn @q11 g'5)
          refine runTf g'6 ?_
          refine cond_split (fun h12 => ?_) (fun h12 => ?_)
          · have h12d := bsT h12
            have hjt : j < (mkB (g6 l i)).length := by omega
            have g'7 := (jn @h12 (jn @h12d g'6))
            refine runTf g'7 ?_
            refine hn10 _ _ ?_
            refine AW_seqQ fun Q11 hn11 hr11 he11 => ?_
            have hQ11 := fun F H' h => hr11 F H' (hQ9 F H' h)
            refine AW_blockQ fun Q12 hn12 hr12 he12 hb12 => ?_
            have hQ12 := fun F H' h => hr12 F H' (hQ11 F H' h)
            refine AW_special true try_mixed [[0, 1, 2, 3, 4, 5, 6, 7, 8, 9, 10, 11], [0, 1, 2, 3, 4, 5, 6, 7, 8, 10, 9, 11]] (by kernel_rfl) (fun F2 H2 => F2 = [(0, .sl (some (bs, 0)) l.length cs), (5, .ptr (some (H.length, 0))), (7, .ptr (some (H.length + 1, 0))), (9, .int .i64 (1024 - g)), (10, .int .i64 ((i : Nat) : Int)), (11, .sl (some (H.length + 2, 0)) 4 (some 4)), (12, .sl (some (H.length + 3, 0)) 4 (some 4)), (13, .int .i64 ((j : Nat) : Int)), (14, .ptr (some (H.length + 4, 0)))] ∧ H2 = H ++ [.cells true 0 [.int .i64 m, .int .i64 r], .cells true 0 [.int .i64 c1, .int .i64 c2], .cells true 1 [.int .i64 (g61 l i), .int .i64 (g63 l i), .int .i64 (g61 l i), .int .i64 (g63 l i)], .cells true 1 [.int .i64 (g62 l i), .int .i64 (g62 l i), .int .i64 (g64 l i), .int .i64 (g64 l i)], .cells true 0 [.int .i64 ((beamV ((g65 l i) + ((j : Nat) : Int)) m).1), .int .i64 ((beamV ((g65 l i) + ((j : Nat) : Int)) m).2.1), .int .i64 ((beamV ((g65 l i) + ((j : Nat) : Int)) m).2.2)]]) ?_ ?_
            · refine reps_cons ?_ (reps_cons ?_ (reps_nil)) <;> intro J hJ
              · skip
                have q13 := r6_at4 (l := l) (j := i) (by omega)
                have g'8 := (jn @q13 g'7)
                refine runDf g'8 ?_
                refine call_d (by kernel_rfl) (rbeam_c _ ((g65 l i) + ((j : Nat) : Int)) m) ?_
                refine runDf g'8 ?_
                refine inv_of (hJ _ _ ⟨_, _, _, ⟨rfl, rfl⟩, Abs.byG hbel [] rfl [0, 1, 2, 3, 4] (by decide) ?_⟩)
                exact absW
              · skip
                have q14 := r6_at4 (l := l) (j := i) (by omega)
                have g'9 := (jn @q14 g'7)
                refine runDf g'9 ?_
                refine call_d (by kernel_rfl) (rbeam_c _ ((g65 l i) + ((j : Nat) : Int)) m) ?_
                refine runDf g'9 ?_
                refine inv_of (hJ _ _ ⟨_, _, _, ⟨rfl, rfl⟩, Abs.byG hbel [] rfl [0, 1, 2, 3, 4] (by decide) ?_⟩)
                exact absW
            rintro F2 H2 ⟨rfl, rfl⟩
            refine AW_fin true try_mixed (by kernel_rfl) ?_
            refine runTf g'7 ?_
            refine go_loop try_mixed (by kernel_rfl) (fun k F Hx => ∃ q : Nat, q + k = 4 ∧ (∀ n : Nat, n < q → crP (g6 l i) (beamV (g65 l i + ((j : Nat) : Int)) m) (farF r g) c1 c2 n = true) ∧ F = [(0, .sl (some (bs, 0)) l.length cs), (5, .ptr (some (H.length, 0))), (7, .ptr (some (H.length + 1, 0))), (9, .int .i64 (1024 - g)), (10, .int .i64 ((i : Nat) : Int)), (11, .sl (some (H.length + 2, 0)) 4 (some 4)), (12, .sl (some (H.length + 3, 0)) 4 (some 4)), (13, .int .i64 ((j : Nat) : Int)), (14, .ptr (some (H.length + 4, 0))), (15, .int .i64 ((q : Nat) : Int))] ∧ Hx = H ++ [.cells true 0 [.int .i64 m, .int .i64 r], .cells true 0 [.int .i64 c1, .int .i64 c2], .cells true 1 [.int .i64 (g61 l i), .int .i64 (g63 l i), .int .i64 (g61 l i), .int .i64 (g63 l i)], .cells true 1 [.int .i64 (g62 l i), .int .i64 (g62 l i), .int .i64 (g64 l i), .int .i64 (g64 l i)], .cells true 0 [.int .i64 ((beamV ((g65 l i) + ((j : Nat) : Int)) m).1), .int .i64 ((beamV ((g65 l i) + ((j : Nat) : Int)) m).2.1), .int .i64 ((beamV ((g65 l i) + ((j : Nat) : Int)) m).2.2)]]) (4) ?_ ?_
            · refine ⟨_, _, _, ⟨0, by omega, fun n hn => by omega, rfl, rfl⟩, Abs.byG hbel [] rfl [0, 1, 2, 3, 4] (by decide) ?_⟩
              exact absW
            · rintro k2 F Hx ⟨q, hm2, hC, rfl, rfl⟩ J2 hJ2
              refine runTf g'7 ?_
              refine cond_split (fun h15 => ?_) (fun h15 => ?_)
              · have h15d := bsT h15
                obtain rfl | rfl | rfl | rfl := (by omega : q = 0 ∨ q = 1 ∨ q = 2 ∨ q = 3)
                · skip
                  have g'10 := (jn @h15 (jn @h15d g'7))
                  refine runTf g'10 ?_
                  refine call_d (by kernel_rfl) (bsquare_c _ c1 c2 (by omega) (by omega)) ?_
                  refine runTf g'10 ?_
                  refine call_d (by kernel_rfl) (rbefore_c _ (g61 l i) (g62 l i) ((beamV ((g65 l i) + ((j : Nat) : Int)) m).1) ((beamV ((g65 l i) + ((j : Nat) : Int)) m).2.1) ((beamV ((g65 l i) + ((j : Nat) : Int)) m).2.2) (1024 - g) (c1 * 64) (c2 * 64) (c1 * 64 + 64) (c2 * 64 + 64)) ?_
                  refine runTf g'10 ?_
                  refine cond_split (fun h16 => ?_) (fun h16 => ?_)
                  · have h16d := bsT h16
                    have hfinP : prvE l g (m, r) (c1, c2) = false := prv_no hlt hjt (n := 0) (by decide) (by rw [hff]; exact h16d)
                    have g'11 := (jn @h16 (jn @h16d g'10))
                    refine runTf g'11 ?_
                    exact hQ12 _ _ (end_plain (.inl rfl) hbel (x := .bool false) (resT Tryz.results71) rfl ⟨by rw [hfinP], rfl⟩)
                  · have h16d := bsT h16
                    have hcn : crP (g6 l i) (beamV (g65 l i + ((j : Nat) : Int)) m) (farF r g) c1 c2 0 = true := by rw [hff]; exact h16d
                    have g'12 := (jn @h16 (jn @h16d g'10))
                    refine runTf g'12 ?_
                    refine hJ2 _ _ ⟨k2 - 1, by omega, _, _, _, ⟨0 + 1, by omega, fun n hn => by
                                rcases Nat.lt_or_ge n 0 with h | h
                                · exact hC n h
                                · rw [show n = 0 by omega]; exact hcn, rfl, rfl⟩, Abs.byG hbel [] rfl [0, 1, 2, 3, 4] (by decide) ?_⟩
                    exact absW
                · skip
                  have g'13 := (jn @h15 (jn @h15d g'7))
                  refine runTf g'13 ?_
                  refine call_d (by kernel_rfl) (bsquare_c _ c1 c2 (by omega) (by omega)) ?_
                  refine runTf g'13 ?_
                  refine call_d (by kernel_rfl) (rbefore_c _ (g63 l i) (g62 l i) ((beamV ((g65 l i) + ((j : Nat) : Int)) m).1) ((beamV ((g65 l i) + ((j : Nat) : Int)) m).2.1) ((beamV ((g65 l i) + ((j : Nat) : Int)) m).2.2) (1024 - g) (c1 * 64) (c2 * 64) (c1 * 64 + 64) (c2 * 64 + 64)) ?_
                  refine runTf g'13 ?_
                  refine cond_split (fun h17 => ?_) (fun h17 => ?_)
                  · have h17d := bsT h17
                    have hfinP : prvE l g (m, r) (c1, c2) = false := prv_no hlt hjt (n := 1) (by decide) (by rw [hff]; exact h17d)
                    have g'14 := (jn @h17 (jn @h17d g'13))
                    refine runTf g'14 ?_
                    exact hQ12 _ _ (end_plain (.inl rfl) hbel (x := .bool false) (resT Tryz.results71) rfl ⟨by rw [hfinP], rfl⟩)
                  · have h17d := bsT h17
                    have hcn : crP (g6 l i) (beamV (g65 l i + ((j : Nat) : Int)) m) (farF r g) c1 c2 1 = true := by rw [hff]; exact h17d
                    have g'15 := (jn @h17 (jn @h17d g'13))
                    refine runTf g'15 ?_
                    refine hJ2 _ _ ⟨k2 - 1, by omega, _, _, _, ⟨1 + 1, by omega, fun n hn => by
                                rcases Nat.lt_or_ge n 1 with h | h
                                · exact hC n h
                                · rw [show n = 1 by omega]; exact hcn, rfl, rfl⟩, Abs.byG hbel [] rfl [0, 1, 2, 3, 4] (by decide) ?_⟩
                    exact absW
                · skip
                  have g'16 := (jn @h15 (jn @h15d g'7))
                  refine runTf g'16 ?_
                  refine call_d (by kernel_rfl) (bsquare_c _ c1 c2 (by omega) (by omega)) ?_
                  refine runTf g'16 ?_
                  refine call_d (by kernel_rfl) (rbefore_c _ (g61 l i) (g64 l i) ((beamV ((g65 l i) + ((j : Nat) : Int)) m).1) ((beamV ((g65 l i) + ((j : Nat) : Int)) m).2.1) ((beamV ((g65 l i) + ((j : Nat) : Int)) m).2.2) (1024 - g) (c1 * 64) (c2 * 64) (c1 * 64 + 64) (c2 * 64 + 64)) ?_
                  refine runTf g'16 ?_
                  refine cond_split (fun h18 => ?_) (fun h18 => ?_)
                  · have h18d := bsT h18
                    have hfinP : prvE l g (m, r) (c1, c2) = false := prv_no hlt hjt (n := 2) (by decide) (by rw [hff]; exact h18d)
                    have g'17 := (jn @h18 (jn @h18d g'16))
                    refine runTf g'17 ?_
                    exact hQ12 _ _ (end_plain (.inl rfl) hbel (x := .bool false) (resT Tryz.results71) rfl ⟨by rw [hfinP], rfl⟩)
                  · have h18d := bsT h18
                    have hcn : crP (g6 l i) (beamV (g65 l i + ((j : Nat) : Int)) m) (farF r g) c1 c2 2 = true := by rw [hff]; exact h18d
                    have g'18 := (jn @h18 (jn @h18d g'16))
                    refine runTf g'18 ?_
                    refine hJ2 _ _ ⟨k2 - 1, by omega, _, _, _, ⟨2 + 1, by omega, fun n hn => by
                                rcases Nat.lt_or_ge n 2 with h | h
                                · exact hC n h
                                · rw [show n = 2 by omega]; exact hcn, rfl, rfl⟩, Abs.byG hbel [] rfl [0, 1, 2, 3, 4] (by decide) ?_⟩
                    exact absW
                · skip
                  have g'19 := (jn @h15 (jn @h15d g'7))
                  refine runTf g'19 ?_
                  refine call_d (by kernel_rfl) (bsquare_c _ c1 c2 (by omega) (by omega)) ?_
                  refine runTf g'19 ?_
                  refine call_d (by kernel_rfl) (rbefore_c _ (g63 l i) (g64 l i) ((beamV ((g65 l i) + ((j : Nat) : Int)) m).1) ((beamV ((g65 l i) + ((j : Nat) : Int)) m).2.1) ((beamV ((g65 l i) + ((j : Nat) : Int)) m).2.2) (1024 - g) (c1 * 64) (c2 * 64) (c1 * 64 + 64) (c2 * 64 + 64)) ?_
                  refine runTf g'19 ?_
                  refine cond_split (fun h19 => ?_) (fun h19 => ?_)
                  · have h19d := bsT h19
                    have hfinP : prvE l g (m, r) (c1, c2) = false := prv_no hlt hjt (n := 3) (by decide) (by rw [hff]; exact h19d)
                    have g'20 := (jn @h19 (jn @h19d g'19))
                    refine runTf g'20 ?_
                    exact hQ12 _ _ (end_plain (.inl rfl) hbel (x := .bool false) (resT Tryz.results71) rfl ⟨by rw [hfinP], rfl⟩)
                  · have h19d := bsT h19
                    have hcn : crP (g6 l i) (beamV (g65 l i + ((j : Nat) : Int)) m) (farF r g) c1 c2 3 = true := by rw [hff]; exact h19d
                    have g'21 := (jn @h19 (jn @h19d g'19))
                    refine runTf g'21 ?_
                    refine hJ2 _ _ ⟨k2 - 1, by omega, _, _, _, ⟨3 + 1, by omega, fun n hn => by
                                rcases Nat.lt_or_ge n 3 with h | h
                                · exact hC n h
                                · rw [show n = 3 by omega]; exact hcn, rfl, rfl⟩, Abs.byG hbel [] rfl [0, 1, 2, 3, 4] (by decide) ?_⟩
                    exact absW
              · have h15d := bsT h15
                obtain rfl : q = 4 := by omega
                have g'22 := (jn @h15 (jn @h15d g'7))
                refine runTf g'22 ?_
                refine hn12 _ _ ?_
                refine hn11 _ _ ?_
                refine AW_fin true try_mixed (by kernel_rfl) ?_
                refine runTf g'22 ?_
                refine hJ1 _ _ ⟨k1 - 1, by omega, _, _, _, ⟨j + 1, by omega, dirB_stepP hjt hB hC, rfl, rfl⟩, Abs.byG hbel [] rfl [0, 1, 2, 3] (by decide) ?_⟩
                exact absW
          · have h12d := bsT h12
            obtain rfl : j = (mkB (g6 l i)).length := by omega
            have g'23 := (jn @h12 (jn @h12d g'6))
            refine runTf g'23 ?_
            refine he10 _ _ _ ?_
            refine he9 _ _ _ ?_
            refine hb8 _ _ ?_
            refine hn4 _ _ ?_
            refine hn3 _ _ ?_
            refine AW_fin true try_mixed (by kernel_rfl) ?_
            refine runTf g'23 ?_
            refine hJ0 _ _ ⟨k0 - 1, by omega, _, _, _, ⟨i + 1, by omega, dirS_stepP hA hB, rfl, rfl⟩, Abs.byG hbel [] rfl [0, 1] (by decide) ?_⟩
            exact absW
      · have h2d := bsT h2
        obtain rfl : i = l.length := by omega
        have hfinP : prvE l g (m, r) (c1, c2) = true := prv_yes hA
        have g'24 := (jn @h2 (jn @h2d g'2))
        refine runTf g'24 ?_
        refine he2 _ _ _ ?_
        refine he1 _ _ _ ?_
        refine runTf g'24 ?_
        exact hQ _ _ (end_plain (.inl rfl) hbel (x := .bool true) (resT Tryz.results71) rfl ⟨by rw [hfinP], rfl⟩)
  · have h1d := bsT h1
    have hff : farF r g = r - g := if_neg (by omega)
    have g'25 := (jn @h1 (jn @h1d g'1))
    refine runTf g'25 ?_
    refine go_loopA (fun k F Hx => ∃ i : Nat, i + k = l.length ∧ (∀ e ∈ dirS l m i, psC e (farF r g) (c1, c2) = true) ∧ F = [(0, .sl (some (bs, 0)) l.length cs), (5, .ptr (some (H.length, 0))), (7, .ptr (some (H.length + 1, 0))), (9, .int .i64 (r - g)), (10, .int .i64 ((i : Nat) : Int))] ∧ Hx = H ++ [.cells true 0 [.int .i64 m, .int .i64 r], .cells true 0 [.int .i64 c1, .int .i64 c2]]) (l.length) ?_ ?_
    · refine ⟨_, _, _, ⟨0, by omega, (fun e he => (by cases he)), rfl, rfl⟩, Abs.byG hbel [] rfl [0, 1] (by decide) ?_⟩
      exact absW
    · rintro k0 F Hx ⟨i, hm0, hA, rfl, rfl⟩ Q13 hJ0 hr13 he13
      have hQ13 := fun F H' h => hr13 F H' (hQ F H' h)
      refine AW_seqQ fun Q14 hn14 hr14 he14 => ?_
      have hQ14 := fun F H' h => hr14 F H' (hQ13 F H' h)
      refine AW_fin true try_mixed (by kernel_rfl) ?_
      refine runTf g'25 ?_
      refine cond_split (fun h20 => ?_) (fun h20 => ?_)
      · have h20d := bsT h20
        have hlt : i < l.length := by omega
        have hml := mkB_len hS hlt
        have hbb := bxB_iff.1 ((setB_iff.1 hS).2 _ (g6_mem hlt))
        have hbd : (0 ≤ g65 l i ∧ g65 l i ≤ 255) ∧ (1 ≤ g66 l i ∧ g66 l i ≤ 256) := by
          have q1 : 0 ≤ g65 l i ∧ g65 l i < 256 := (arcB_iff.1 hbb.2.2).1
          have q2 : 1 ≤ g66 l i ∧ g66 l i ≤ 256 := (arcB_iff.1 hbb.2.2).2.1
          omega
        have g'26 := (jn @h20 (jn @h20d g'25))
        refine runTf g'26 ?_
        refine hn14 _ _ ?_
        refine AW_seqQ fun Q15 hn15 hr15 he15 => ?_
        have hQ15 := fun F H' h => hr15 F H' (hQ13 F H' h)
        refine AW_blockQ fun Q16 hn16 hr16 he16 hb16 => ?_
        have hQ16 := fun F H' h => hr16 F H' (hQ15 F H' h)
        refine AW_seqQ fun Q17 hn17 hr17 he17 => ?_
        have hQ17 := fun F H' h => hr17 F H' (hQ16 F H' h)
        refine AW_fin true try_mixed (by kernel_rfl) ?_
        have q21 := r6_at0 (l := l) (j := i) (by omega)
        have q22 := r6_at2 (l := l) (j := i) (by omega)
        have q23 := r6_at0 (l := l) (j := i) (by omega)
        have q24 := r6_at2 (l := l) (j := i) (by omega)
        have g'27 := (jn @r6_len (jn @q21 (jn @q22 (jn @q23 (jn @q24 g'26)))))
        refine runTf g'27 ?_
        refine hn17 _ _ ?_
        refine AW_seqQ fun Q18 hn18 hr18 he18 => ?_
        have hQ18 := fun F H' h => hr18 F H' (hQ16 F H' h)
        refine AW_fin true try_mixed (by kernel_rfl) ?_
        have q25 := r6_at1 (l := l) (j := i) (by omega)
        have q26 := r6_at1 (l := l) (j := i) (by omega)
        have q27 := r6_at3 (l := l) (j := i) (by omega)
        have q28 := r6_at3 (l := l) (j := i) (by omega)
        have g'28 := (jn @q25 (jn @q26 (jn @q27 (jn @q28 g'27))))
        refine runTf g'28 ?_
        refine hn18 _ _ ?_
        refine AW_seqQ fun Q19 hn19 hr19 he19 => ?_
        have hQ19 := fun F H' h => hr19 F H' (hQ16 F H' h)
        refine AW_fin true try_mixed (by kernel_rfl) ?_
        refine runTf g'28 ?_
        refine hn19 _ _ ?_
        refine AW_blockQ fun Q20 hn20 hr20 he20 hb20 => ?_
        have hQ20 := fun F H' h => hr20 F H' (hQ16 F H' h)
        refine AW_loopA (fun k F Hx => ∃ j : Nat, j + k = (mkB (g6 l i)).length ∧ (∀ e ∈ dirB (g6 l i) m j, psC e (farF r g) (c1, c2) = true) ∧ F = [(0, .sl (some (bs, 0)) l.length cs), (5, .ptr (some (H.length, 0))), (7, .ptr (some (H.length + 1, 0))), (9, .int .i64 (r - g)), (10, .int .i64 ((i : Nat) : Int)), (11, .sl (some (H.length + 2, 0)) 4 (some 4)), (12, .sl (some (H.length + 3, 0)) 4 (some 4)), (13, .int .i64 ((j : Nat) : Int))] ∧ Hx = H ++ [.cells true 0 [.int .i64 m, .int .i64 r], .cells true 0 [.int .i64 c1, .int .i64 c2], .cells true 1 [.int .i64 (g61 l i), .int .i64 (g63 l i), .int .i64 (g61 l i), .int .i64 (g63 l i)], .cells true 1 [.int .i64 (g62 l i), .int .i64 (g62 l i), .int .i64 (g64 l i), .int .i64 (g64 l i)]]) ((mkB (g6 l i)).length) ?_ ?_
        · refine ⟨_, _, _, ⟨0, by omega, (fun e he => (by cases he)), rfl, rfl⟩, Abs.byG hbel [] rfl [0, 1, 2, 3] (by decide) ?_⟩
          exact absW
        · rintro k1 F Hx ⟨j, hm1, hB, rfl, rfl⟩ Q21 hJ1 hr21 he21
          have hQ21 := fun F H' h => hr21 F H' (hQ20 F H' h)
          refine AW_seqQ fun Q22 hn22 hr22 he22 => ?_
          have hQ22 := fun F H' h => hr22 F H' (hQ21 F H' h)
          refine AW_fin true try_mixed (by kernel_rfl) ?_
          have q29 := r6_at5 (l := l) (j := i) (by omega)
          have g'29 := (jn @q29 g'28)
          refine runTf g'29 ?_
          refine cond_split (fun h30 => ?_) (fun h30 => ?_)
          · have h30d := bsT h30
            have hjt : j < (mkB (g6 l i)).length := by omega
            have g'30 := (jn @h30 (jn @h30d g'29))
            refine runTf g'30 ?_
            refine hn22 _ _ ?_
            refine AW_seqQ fun Q23 hn23 hr23 he23 => ?_
            have hQ23 := fun F H' h => hr23 F H' (hQ21 F H' h)
            refine AW_blockQ fun Q24 hn24 hr24 he24 hb24 => ?_
            have hQ24 := fun F H' h => hr24 F H' (hQ23 F H' h)
            refine AW_special true try_mixed [[0, 1, 2, 3, 4, 5, 6, 7, 8, 9, 10, 11], [0, 1, 2, 3, 4, 5, 6, 7, 8, 10, 9, 11]] (by kernel_rfl) (fun F2 H2 => F2 = [(0, .sl (some (bs, 0)) l.length cs), (5, .ptr (some (H.length, 0))), (7, .ptr (some (H.length + 1, 0))), (9, .int .i64 (r - g)), (10, .int .i64 ((i : Nat) : Int)), (11, .sl (some (H.length + 2, 0)) 4 (some 4)), (12, .sl (some (H.length + 3, 0)) 4 (some 4)), (13, .int .i64 ((j : Nat) : Int)), (14, .ptr (some (H.length + 4, 0)))] ∧ H2 = H ++ [.cells true 0 [.int .i64 m, .int .i64 r], .cells true 0 [.int .i64 c1, .int .i64 c2], .cells true 1 [.int .i64 (g61 l i), .int .i64 (g63 l i), .int .i64 (g61 l i), .int .i64 (g63 l i)], .cells true 1 [.int .i64 (g62 l i), .int .i64 (g62 l i), .int .i64 (g64 l i), .int .i64 (g64 l i)], .cells true 0 [.int .i64 ((beamV ((g65 l i) + ((j : Nat) : Int)) m).1), .int .i64 ((beamV ((g65 l i) + ((j : Nat) : Int)) m).2.1), .int .i64 ((beamV ((g65 l i) + ((j : Nat) : Int)) m).2.2)]]) ?_ ?_
            · refine reps_cons ?_ (reps_cons ?_ (reps_nil)) <;> intro J hJ
              · skip
                have q31 := r6_at4 (l := l) (j := i) (by omega)
                have g'31 := (jn @q31 g'30)
                refine runDf g'31 ?_
                refine call_d (by kernel_rfl) (rbeam_c _ ((g65 l i) + ((j : Nat) : Int)) m) ?_
                refine runDf g'31 ?_
                refine inv_of (hJ _ _ ⟨_, _, _, ⟨rfl, rfl⟩, Abs.byG hbel [] rfl [0, 1, 2, 3, 4] (by decide) ?_⟩)
                exact absW
              · skip
                have q32 := r6_at4 (l := l) (j := i) (by omega)
                have g'32 := (jn @q32 g'30)
                refine runDf g'32 ?_
                refine call_d (by kernel_rfl) (rbeam_c _ ((g65 l i) + ((j : Nat) : Int)) m) ?_
                refine runDf g'32 ?_
                refine inv_of (hJ _ _ ⟨_, _, _, ⟨rfl, rfl⟩, Abs.byG hbel [] rfl [0, 1, 2, 3, 4] (by decide) ?_⟩)
                exact absW
            rintro F2 H2 ⟨rfl, rfl⟩
            refine AW_fin true try_mixed (by kernel_rfl) ?_
            refine runTf g'30 ?_
            refine go_loop try_mixed (by kernel_rfl) (fun k F Hx => ∃ q : Nat, q + k = 4 ∧ (∀ n : Nat, n < q → crP (g6 l i) (beamV (g65 l i + ((j : Nat) : Int)) m) (farF r g) c1 c2 n = true) ∧ F = [(0, .sl (some (bs, 0)) l.length cs), (5, .ptr (some (H.length, 0))), (7, .ptr (some (H.length + 1, 0))), (9, .int .i64 (r - g)), (10, .int .i64 ((i : Nat) : Int)), (11, .sl (some (H.length + 2, 0)) 4 (some 4)), (12, .sl (some (H.length + 3, 0)) 4 (some 4)), (13, .int .i64 ((j : Nat) : Int)), (14, .ptr (some (H.length + 4, 0))), (15, .int .i64 ((q : Nat) : Int))] ∧ Hx = H ++ [.cells true 0 [.int .i64 m, .int .i64 r], .cells true 0 [.int .i64 c1, .int .i64 c2], .cells true 1 [.int .i64 (g61 l i), .int .i64 (g63 l i), .int .i64 (g61 l i), .int .i64 (g63 l i)], .cells true 1 [.int .i64 (g62 l i), .int .i64 (g62 l i), .int .i64 (g64 l i), .int .i64 (g64 l i)], .cells true 0 [.int .i64 ((beamV ((g65 l i) + ((j : Nat) : Int)) m).1), .int .i64 ((beamV ((g65 l i) + ((j : Nat) : Int)) m).2.1), .int .i64 ((beamV ((g65 l i) + ((j : Nat) : Int)) m).2.2)]]) (4) ?_ ?_
            · refine ⟨_, _, _, ⟨0, by omega, fun n hn => by omega, rfl, rfl⟩, Abs.byG hbel [] rfl [0, 1, 2, 3, 4] (by decide) ?_⟩
              exact absW
            · rintro k2 F Hx ⟨q, hm2, hC, rfl, rfl⟩ J2 hJ2
              refine runTf g'30 ?_
              refine cond_split (fun h33 => ?_) (fun h33 => ?_)
              · have h33d := bsT h33
                obtain rfl | rfl | rfl | rfl := (by omega : q = 0 ∨ q = 1 ∨ q = 2 ∨ q = 3)
                · skip
                  have g'33 := (jn @h33 (jn @h33d g'30))
                  refine runTf g'33 ?_
                  refine call_d (by kernel_rfl) (bsquare_c _ c1 c2 (by omega) (by omega)) ?_
                  refine runTf g'33 ?_
                  refine call_d (by kernel_rfl) (rbefore_c _ (g61 l i) (g62 l i) ((beamV ((g65 l i) + ((j : Nat) : Int)) m).1) ((beamV ((g65 l i) + ((j : Nat) : Int)) m).2.1) ((beamV ((g65 l i) + ((j : Nat) : Int)) m).2.2) (r - g) (c1 * 64) (c2 * 64) (c1 * 64 + 64) (c2 * 64 + 64)) ?_
                  refine runTf g'33 ?_
                  refine cond_split (fun h34 => ?_) (fun h34 => ?_)
                  · have h34d := bsT h34
                    have hfinP : prvE l g (m, r) (c1, c2) = false := prv_no hlt hjt (n := 0) (by decide) (by rw [hff]; exact h34d)
                    have g'34 := (jn @h34 (jn @h34d g'33))
                    refine runTf g'34 ?_
                    exact hQ24 _ _ (end_plain (.inl rfl) hbel (x := .bool false) (resT Tryz.results71) rfl ⟨by rw [hfinP], rfl⟩)
                  · have h34d := bsT h34
                    have hcn : crP (g6 l i) (beamV (g65 l i + ((j : Nat) : Int)) m) (farF r g) c1 c2 0 = true := by rw [hff]; exact h34d
                    have g'35 := (jn @h34 (jn @h34d g'33))
                    refine runTf g'35 ?_
                    refine hJ2 _ _ ⟨k2 - 1, by omega, _, _, _, ⟨0 + 1, by omega, fun n hn => by
                                rcases Nat.lt_or_ge n 0 with h | h
                                · exact hC n h
                                · rw [show n = 0 by omega]; exact hcn, rfl, rfl⟩, Abs.byG hbel [] rfl [0, 1, 2, 3, 4] (by decide) ?_⟩
                    exact absW
                · skip
                  have g'36 := (jn @h33 (jn @h33d g'30))
                  refine runTf g'36 ?_
                  refine call_d (by kernel_rfl) (bsquare_c _ c1 c2 (by omega) (by omega)) ?_
                  refine runTf g'36 ?_
                  refine call_d (by kernel_rfl) (rbefore_c _ (g63 l i) (g62 l i) ((beamV ((g65 l i) + ((j : Nat) : Int)) m).1) ((beamV ((g65 l i) + ((j : Nat) : Int)) m).2.1) ((beamV ((g65 l i) + ((j : Nat) : Int)) m).2.2) (r - g) (c1 * 64) (c2 * 64) (c1 * 64 + 64) (c2 * 64 + 64)) ?_
                  refine runTf g'36 ?_
                  refine cond_split (fun h35 => ?_) (fun h35 => ?_)
                  · have h35d := bsT h35
                    have hfinP : prvE l g (m, r) (c1, c2) = false := prv_no hlt hjt (n := 1) (by decide) (by rw [hff]; exact h35d)
                    have g'37 := (jn @h35 (jn @h35d g'36))
                    refine runTf g'37 ?_
                    exact hQ24 _ _ (end_plain (.inl rfl) hbel (x := .bool false) (resT Tryz.results71) rfl ⟨by rw [hfinP], rfl⟩)
                  · have h35d := bsT h35
                    have hcn : crP (g6 l i) (beamV (g65 l i + ((j : Nat) : Int)) m) (farF r g) c1 c2 1 = true := by rw [hff]; exact h35d
                    have g'38 := (jn @h35 (jn @h35d g'36))
                    refine runTf g'38 ?_
                    refine hJ2 _ _ ⟨k2 - 1, by omega, _, _, _, ⟨1 + 1, by omega, fun n hn => by
                                rcases Nat.lt_or_ge n 1 with h | h
                                · exact hC n h
                                · rw [show n = 1 by omega]; exact hcn, rfl, rfl⟩, Abs.byG hbel [] rfl [0, 1, 2, 3, 4] (by decide) ?_⟩
                    exact absW
                · skip
                  have g'39 := (jn @h33 (jn @h33d g'30))
                  refine runTf g'39 ?_
                  refine call_d (by kernel_rfl) (bsquare_c _ c1 c2 (by omega) (by omega)) ?_
                  refine runTf g'39 ?_
                  refine call_d (by kernel_rfl) (rbefore_c _ (g61 l i) (g64 l i) ((beamV ((g65 l i) + ((j : Nat) : Int)) m).1) ((beamV ((g65 l i) + ((j : Nat) : Int)) m).2.1) ((beamV ((g65 l i) + ((j : Nat) : Int)) m).2.2) (r - g) (c1 * 64) (c2 * 64) (c1 * 64 + 64) (c2 * 64 + 64)) ?_
                  refine runTf g'39 ?_
                  refine cond_split (fun h36 => ?_) (fun h36 => ?_)
                  · have h36d := bsT h36
                    have hfinP : prvE l g (m, r) (c1, c2) = false := prv_no hlt hjt (n := 2) (by decide) (by rw [hff]; exact h36d)
                    have g'40 := (jn @h36 (jn @h36d g'39))
                    refine runTf g'40 ?_
                    exact hQ24 _ _ (end_plain (.inl rfl) hbel (x := .bool false) (resT Tryz.results71) rfl ⟨by rw [hfinP], rfl⟩)
                  · have h36d := bsT h36
                    have hcn : crP (g6 l i) (beamV (g65 l i + ((j : Nat) : Int)) m) (farF r g) c1 c2 2 = true := by rw [hff]; exact h36d
                    have g'41 := (jn @h36 (jn @h36d g'39))
                    refine runTf g'41 ?_
                    refine hJ2 _ _ ⟨k2 - 1, by omega, _, _, _, ⟨2 + 1, by omega, fun n hn => by
                                rcases Nat.lt_or_ge n 2 with h | h
                                · exact hC n h
                                · rw [show n = 2 by omega]; exact hcn, rfl, rfl⟩, Abs.byG hbel [] rfl [0, 1, 2, 3, 4] (by decide) ?_⟩
                    exact absW
                · skip
                  have g'42 := (jn @h33 (jn @h33d g'30))
                  refine runTf g'42 ?_
                  refine call_d (by kernel_rfl) (bsquare_c _ c1 c2 (by omega) (by omega)) ?_
                  refine runTf g'42 ?_
                  refine call_d (by kernel_rfl) (rbefore_c _ (g63 l i) (g64 l i) ((beamV ((g65 l i) + ((j : Nat) : Int)) m).1) ((beamV ((g65 l i) + ((j : Nat) : Int)) m).2.1) ((beamV ((g65 l i) + ((j : Nat) : Int)) m).2.2) (r - g) (c1 * 64) (c2 * 64) (c1 * 64 + 64) (c2 * 64 + 64)) ?_
                  refine runTf g'42 ?_
                  refine cond_split (fun h37 => ?_) (fun h37 => ?_)
                  · have h37d := bsT h37
                    have hfinP : prvE l g (m, r) (c1, c2) = false := prv_no hlt hjt (n := 3) (by decide) (by rw [hff]; exact h37d)
                    have g'43 := (jn @h37 (jn @h37d g'42))
                    refine runTf g'43 ?_
                    exact hQ24 _ _ (end_plain (.inl rfl) hbel (x := .bool false) (resT Tryz.results71) rfl ⟨by rw [hfinP], rfl⟩)
                  · have h37d := bsT h37
                    have hcn : crP (g6 l i) (beamV (g65 l i + ((j : Nat) : Int)) m) (farF r g) c1 c2 3 = true := by rw [hff]; exact h37d
                    have g'44 := (jn @h37 (jn @h37d g'42))
                    refine runTf g'44 ?_
                    refine hJ2 _ _ ⟨k2 - 1, by omega, _, _, _, ⟨3 + 1, by omega, fun n hn => by
                                rcases Nat.lt_or_ge n 3 with h | h
                                · exact hC n h
                                · rw [show n = 3 by omega]; exact hcn, rfl, rfl⟩, Abs.byG hbel [] rfl [0, 1, 2, 3, 4] (by decide) ?_⟩
                    exact absW
              · have h33d := bsT h33
                obtain rfl : q = 4 := by omega
                have g'45 := (jn @h33 (jn @h33d g'30))
                refine runTf g'45 ?_
                refine hn24 _ _ ?_
                refine hn23 _ _ ?_
                refine AW_fin true try_mixed (by kernel_rfl) ?_
                refine runTf g'45 ?_
                refine hJ1 _ _ ⟨k1 - 1, by omega, _, _, _, ⟨j + 1, by omega, dirB_stepP hjt hB hC, rfl, rfl⟩, Abs.byG hbel [] rfl [0, 1, 2, 3] (by decide) ?_⟩
                exact absW
          · have h30d := bsT h30
            obtain rfl : j = (mkB (g6 l i)).length := by omega
            have g'46 := (jn @h30 (jn @h30d g'29))
            refine runTf g'46 ?_
            refine he22 _ _ _ ?_
            refine he21 _ _ _ ?_
            refine hb20 _ _ ?_
            refine hn16 _ _ ?_
            refine hn15 _ _ ?_
            refine AW_fin true try_mixed (by kernel_rfl) ?_
            refine runTf g'46 ?_
            refine hJ0 _ _ ⟨k0 - 1, by omega, _, _, _, ⟨i + 1, by omega, dirS_stepP hA hB, rfl, rfl⟩, Abs.byG hbel [] rfl [0, 1] (by decide) ?_⟩
            exact absW
      · have h20d := bsT h20
        obtain rfl : i = l.length := by omega
        have hfinP : prvE l g (m, r) (c1, c2) = true := prv_yes hA
        have g'47 := (jn @h20 (jn @h20d g'25))
        refine runTf g'47 ?_
        refine he14 _ _ _ ?_
        refine he13 _ _ _ ?_
        refine runTf g'47 ?_
        exact hQ _ _ (end_plain (.inl rfl) hbel (x := .bool true) (resT Tryz.results71) rfl ⟨by rw [hfinP], rfl⟩)
open Go.RowKit
theorem rProven_c (H : AHeap) (W : Int) (Hh : Int) (pp : AV) (xs : List Int) (s : AV) (l : List T6) (q : AV) (sc : List (Int × Int)) (g : Int) (hpp : Sl H 1 pp xs.length (ints .u8 xs)) (hs : Sl H 6 s l.length (r6 l)) (hq : Sl H 2 q sc.length (prs sc)) (hl : l.length ≤ 1000000000) (hsc : sc.length ≤ 1000000000) : ACalls Tryz.prog 19 [.agg [.int .i64 W, .int .i64 Hh, pp], s, q, .int .i64 g] H (fun v H' => v = .tup [.sl (some (H.length, 0)) ((pvL W Hh xs l sc g).length) (capG (pvL W Hh xs l sc g).length), .int .i64 (pvE W Hh xs l sc g)] ∧ H' = H ++ [.cells (ownG (pvL W Hh xs l sc g).length) 2 (prs (pvL W Hh xs l sc g))]) := by
  obtain ⟨bpp, opp, cpp, rfl, hbpp⟩ := hpp
  have hblpp := getElem?_lt hbpp
  have hb0pp := fun l => get_app (l := l) hbpp
  obtain ⟨bs, os, cs, rfl, hbs⟩ := hs
  have hbls := getElem?_lt hbs
  have hb0s := fun l => get_app (l := l) hbs
  obtain ⟨bq, oq, cq, rfl, hbq⟩ := hq
  have hblq := getElem?_lt hbq
  have hb0q := fun l => get_app (l := l) hbq
  refine AcT false Tryz.func19 ?_; intro hbel Q hQ
  have g'1 := (jn @hbpp (jn @hb0pp (jn @hbs (jn @hb0s (jn @hbq @hb0q)))))
  refine runTf g'1 ?_
  refine call_v (by kernel_rfl) (rvalid_k _ W Hh _ xs _ l _ sc g ⟨_, _, _, rfl, by first | exact hb0pp _ | exact hbpp⟩ ⟨_, _, _, rfl, by first | exact hb0s _ | exact hbs⟩ ⟨_, _, _, rfl, by first | exact hb0q _ | exact hbq⟩ (by first | omega | simp) (by first | omega | simp)) ?_
  refine runTf g'1 ?_
  refine cond_split (fun h1 => ?_) (fun h1 => ?_)
  · have h1d := bsT h1
    have hfinP := pv_f h1d
    have g'2 := (jn @h1 (jn @h1d g'1))
    refine runTf g'2 ?_
    refine hQ _ _ (end_byG (.inl rfl) hbel (x1 := .tup [.sl none 0 (some 0), .int .i64 1]) (l2 := [.cells false 2 []]) (.tup [.sl (some (H.length, 0)) 0 (some 0), .int .i64 1]) (resT Tryz.results19) [.cells false 2 []] rfl [1] (by decide) ⟨by first | (rw [hfinP.1, hfinP.2.1]; done) | (rw [hfinP.1, hfinP.2.1]; rfl) | (rw [hfinE, hfinN]; done) | (rw [hfinE, hfinN]; rfl) | (rw [hfinE, hfinG]; done) | skip, by first | (rw [hfinP.2.1]; rfl) | (rw [hfinN]; rfl) | (rw [hfinG]; rfl) | (rw [hfinG]; done) | skip⟩ ?_)
    exact absW
  · have h1d := bsT h1
    have hR := h1d
    obtain ⟨hV, hl0, hS, hsB, hg⟩ := rgtA_iff.1 hR
    have hVV := vld_iff.1 hV
    have hWb : 1 ≤ W ∧ W ≤ 64 := ⟨hVV.w0, hVV.w1⟩
    have hHb : 1 ≤ Hh ∧ Hh ≤ 64 := ⟨hVV.h0, hVV.h1⟩
    have hsc2 := scnB_iff.1 hsB
    have hfinE : pvE W Hh xs l sc g = 0 := (pv_t hR).1
    have g'3 := (jn @h1 (jn @h1d g'1))
    refine runTf g'3 ?_
    refine go_loop try_mixed (by kernel_rfl) (fun k F Hx => ∃ n : Nat, n + k = Hh.toNat ∧ (tauB l = true ∨ n = 0) ∧ F = [(1, .sl (some (bs, 0)) l.length cs), (2, .sl (some (bq, 0)) sc.length cq), (3, .int .i64 g), (4, .ptr (some (H.length, 0))), (10, .sl (some (H.length + 1, 0)) ((gridR (prvQ l sc g) 0 W.toNat 0 n).length) (capG (gridR (prvQ l sc g) 0 W.toNat 0 n).length)), (11, .int .i64 ((n : Nat) : Int))] ∧ Hx = H ++ [.cells true 0 [.int .i64 W, .int .i64 Hh, .sl (some (bpp, 0)) xs.length cpp], .cells (ownG (gridR (prvQ l sc g) 0 W.toNat 0 n).length) 2 (prs (gridR (prvQ l sc g) 0 W.toNat 0 n))]) (Hh.toNat) ?_ ?_
    · refine ⟨_, _, _, ⟨0, by omega, .inr rfl, rfl, rfl⟩, Abs.byG hbel [.cells false 2 []] rfl [0, 1] (by decide) ?_⟩
      exact absRf @gridR_0
    · rintro k0 F Hx ⟨n, hm0, hor, rfl, rfl⟩ J0 hJ0
      have g'4 := (jn @prs_len (jn @prs_one g'3))
      refine runTf g'4 ?_
      refine gd_split (fun h2 => ?_) (fun h2 => ?_)
      · have h2d := bsT h2
        have hnt : n < Hh.toNat := by omega
        have g'5 := (jn @h2 (jn @h2d g'4))
        refine runTf g'5 ?_
        refine call_v (by kernel_rfl) (rsmall_c _ _ l ⟨_, _, _, rfl, by first | exact hb0s _ | exact hbs⟩ (by assumption)) ?_
        refine runTf g'5 ?_
        refine cond_split (fun h3 => ?_) (fun h3 => ?_)
        · have h3d := bsT h3
          have htau := h3d
          have g'6 := (jn @h3 (jn @h3d g'5))
          refine runTf g'6 ?_
          refine go_loop try_mixed (by kernel_rfl) (fun k F Hx => ∃ m : Nat, m + k = W.toNat ∧ F = [(1, .sl (some (bs, 0)) l.length cs), (2, .sl (some (bq, 0)) sc.length cq), (3, .int .i64 g), (4, .ptr (some (H.length, 0))), (10, .sl (some (H.length + 1, 0)) ((gridR (prvQ l sc g) 0 W.toNat 0 n ++ rowR (prvQ l sc g) 0 (0 + ((n : Nat) : Int)) m).length) (capG (gridR (prvQ l sc g) 0 W.toNat 0 n ++ rowR (prvQ l sc g) 0 (0 + ((n : Nat) : Int)) m).length)), (11, .int .i64 ((n : Nat) : Int)), (12, .int .i64 ((m : Nat) : Int))] ∧ Hx = H ++ [.cells true 0 [.int .i64 W, .int .i64 Hh, .sl (some (bpp, 0)) xs.length cpp], .cells (ownG (gridR (prvQ l sc g) 0 W.toNat 0 n ++ rowR (prvQ l sc g) 0 (0 + ((n : Nat) : Int)) m).length) 2 (prs (gridR (prvQ l sc g) 0 W.toNat 0 n ++ rowR (prvQ l sc g) 0 (0 + ((n : Nat) : Int)) m))]) (W.toNat) ?_ ?_
          · refine ⟨_, _, _, ⟨0, by omega, rfl, rfl⟩, Abs.byG hbel [] rfl [0, 1] (by decide) ?_⟩
            exact absRf (jn @rowR_0 @List.append_nil.{0})
          · rintro k1 F Hx ⟨m, hm1, rfl, rfl⟩ J1 hJ1
            refine runTf g'6 ?_
            refine cond_split (fun h4 => ?_) (fun h4 => ?_)
            · have h4d := bsT h4
              have hmt : m < W.toNat := by omega
              have hgb := gridR_len (p := prvQ l sc g) (x0 := 0) (y0 := 0) (w := W.toNat) n
              have hgm : n * W.toNat ≤ 64 * 64 := Nat.mul_le_mul (by omega) (by omega)
              have hrb := rowR_len (p := prvQ l sc g) (x0 := 0) (y := 0 + ((n : Nat) : Int)) m
              have g'7 := (jn @h4 (jn @h4d g'6))
              refine runTf g'7 ?_
              refine go_loop try_mixed (by kernel_rfl) (fun k F Hx => ∃ i : Nat, i + k = sc.length ∧ F = [(1, .sl (some (bs, 0)) l.length cs), (2, .sl (some (bq, 0)) sc.length cq), (3, .int .i64 g), (4, .ptr (some (H.length, 0))), (10, .sl (some (H.length + 1, 0)) ((gridR (prvQ l sc g) 0 W.toNat 0 n ++ rowR (prvQ l sc g) 0 (0 + ((n : Nat) : Int)) m).length) (capG (gridR (prvQ l sc g) 0 W.toNat 0 n ++ rowR (prvQ l sc g) 0 (0 + ((n : Nat) : Int)) m).length)), (11, .int .i64 ((n : Nat) : Int)), (12, .int .i64 ((m : Nat) : Int)), (13, .ptr (some (H.length + 2, 0))), (14, .bool (fndB l sc g ((m : Nat) : Int) ((n : Nat) : Int) i)), (15, .int .i64 ((i : Nat) : Int))] ∧ Hx = H ++ [.cells true 0 [.int .i64 W, .int .i64 Hh, .sl (some (bpp, 0)) xs.length cpp], .cells (ownG (gridR (prvQ l sc g) 0 W.toNat 0 n ++ rowR (prvQ l sc g) 0 (0 + ((n : Nat) : Int)) m).length) 2 (prs (gridR (prvQ l sc g) 0 W.toNat 0 n ++ rowR (prvQ l sc g) 0 (0 + ((n : Nat) : Int)) m)), .cells true 0 [.int .i64 ((m : Nat) : Int), .int .i64 ((n : Nat) : Int)]]) (sc.length) ?_ ?_
              · refine ⟨_, _, _, ⟨0, by omega, rfl, rfl⟩, Abs.byG hbel [] rfl [0, 1, 2] (by decide) ?_⟩
                exact absRf @fnd_0
              · rintro k2 F Hx ⟨i, hm2, rfl, rfl⟩ J2 hJ2
                refine runTf g'7 ?_
                refine gd_split (fun h5 => ?_) (fun h5 => ?_)
                · have h5d := bsT h5
                  have hlt : i < sc.length := by omega
                  have hbi := beaB_iff.1 (hsc2.2 _ (List.getElem_mem hlt))
                  rw [← pr_eq hlt] at hbi
                  have g'8 := (jn @h5 (jn @h5d g'7))
                  refine runTf g'8 ?_
                  refine cond_split (fun h6 => ?_) (fun h6 => ?_)
                  · have h6d := bsT h6
                    have hst := fnd_s hlt h6d
                    have q7 := prs_load (l := sc) (j := i) (by omega)
                    have g'9 := (jn @h6 (jn @h6d (jn @q7 g'8)))
                    refine runTf g'9 ?_
                    refine call_d (by kernel_rfl) (proves_c _ _ l (g1 sc i) (g2 sc i) g ((m : Nat) : Int) ((n : Nat) : Int) ⟨_, _, _, rfl, by first | exact hb0s _ | exact hbs⟩ hS (by omega) (by omega) hg (by omega) (by omega)) ?_
                    refine runTf g'9 ?_
                    refine hJ2 _ _ ⟨k2 - 1, by omega, _, _, _, ⟨i + 1, by omega, rfl, rfl⟩, Abs.byG hbel [] rfl [0, 1, 2] (by decide) ?_⟩
                    exact absRf @hst
                  · have h6d := bsT h6
                    have hfd := h6d
                    have hrs := rwR_t (p := prvQ l sc g) (m := m) (n := n) (fnd_t hfd)
                    have g'10 := (jn @h6 (jn @h6d (jn @capG_s g'8)))
                    refine runTf g'10 ?_
                    refine hJ1 _ _ ⟨k1 - 1, by omega, _, _, _, ⟨m + 1, by omega, rfl, rfl⟩, Abs.byG hbel [] rfl [0, 4] (by decide) ?_⟩
                    exact absRf (jn @hrs @List.append_assoc.{0})
                · have h5d := bsT h5
                  have g'11 := (jn @h5 (jn @h5d g'7))
                  refine runTf g'11 ?_
                  refine cond_split (fun h8 => ?_) (fun h8 => ?_)
                  · have h8d := bsT h8
                    have hfd := h8d
                    have hrs := rwR_t (p := prvQ l sc g) (m := m) (n := n) (fnd_t hfd)
                    have g'12 := (jn @h8 (jn @h8d (jn @capG_s g'11)))
                    refine runTf g'12 ?_
                    refine hJ1 _ _ ⟨k1 - 1, by omega, _, _, _, ⟨m + 1, by omega, rfl, rfl⟩, Abs.byG hbel [] rfl [0, 4] (by decide) ?_⟩
                    exact absRf (jn @hrs @List.append_assoc.{0})
                  · have h8d := bsT h8
                    have hrs := rwR_f (p := prvQ l sc g) (m := m) (n := n) (by rw [← fnd_e, ← show i = sc.length by omega]; exact h8d)
                    have g'13 := (jn @h8 (jn @h8d g'11))
                    refine runTf g'13 ?_
                    refine hJ1 _ _ ⟨k1 - 1, by omega, _, _, _, ⟨m + 1, by omega, rfl, rfl⟩, Abs.byG hbel [] rfl [0, 1] (by decide) ?_⟩
                    exact absRf (jn @hrs @List.append_assoc.{0})
            · have h4d := bsT h4
              obtain rfl : m = W.toNat := by omega
              have g'14 := (jn @h4 (jn @h4d g'6))
              refine runTf g'14 ?_
              refine hJ0 _ _ ⟨k0 - 1, by omega, _, _, _, ⟨n + 1, by omega, .inl htau, rfl, rfl⟩, Abs.byG hbel [] rfl [0, 1] (by decide) ?_⟩
              exact absRf @gridR_s
        · have h3d := bsT h3
          have htau := h3d
          have hn0 : n = 0 := by rcases hor with h | h; rw [h] at htau; cases htau; exact h
          have hfinG : gridR (prvQ l sc g) 0 W.toNat 0 n = pvL W Hh xs l sc g := by rw [hn0, (pv_t hR).2.1, (allL_nil htau).1]; rfl
          have g'15 := (jn @h3 (jn @h3d g'5))
          refine runTf g'15 ?_
          refine hQ _ _ (end_byG (.inl rfl) hbel (x1 := .tup [.sl (some (H.length + 1, 0)) ((gridR (prvQ l sc g) 0 W.toNat 0 n).length) (capG (gridR (prvQ l sc g) 0 W.toNat 0 n).length), .int .i64 0]) (l2 := [.cells (ownG (gridR (prvQ l sc g) 0 W.toNat 0 n).length) 2 (prs (gridR (prvQ l sc g) 0 W.toNat 0 n))]) (.tup [.sl (some (H.length, 0)) ((gridR (prvQ l sc g) 0 W.toNat 0 n).length) (capG (gridR (prvQ l sc g) 0 W.toNat 0 n).length), .int .i64 0]) (resT Tryz.results19) [] rfl [1] (by decide) ⟨by first | (rw [hfinP.1, hfinP.2.1]; done) | (rw [hfinP.1, hfinP.2.1]; rfl) | (rw [hfinE, hfinN]; done) | (rw [hfinE, hfinN]; rfl) | (rw [hfinE, hfinG]; done) | skip, by first | (rw [hfinP.2.1]; rfl) | (rw [hfinN]; rfl) | (rw [hfinG]; rfl) | (rw [hfinG]; done) | skip⟩ ?_)
          exact absW
      · have h2d := bsT h2
        have hn1 : n = Hh.toNat := by omega
        have hfinG : gridR (prvQ l sc g) 0 W.toNat 0 n = pvL W Hh xs l sc g := by
          rw [hn1]
          rcases hor with h | h
          · exact pv_grid hR h
          · omega
        have g'16 := (jn @h2 (jn @h2d g'4))
        refine runTf g'16 ?_
        refine hQ _ _ (end_byG (.inl rfl) hbel (x1 := .tup [.sl (some (H.length + 1, 0)) ((gridR (prvQ l sc g) 0 W.toNat 0 n).length) (capG (gridR (prvQ l sc g) 0 W.toNat 0 n).length), .int .i64 0]) (l2 := [.cells (ownG (gridR (prvQ l sc g) 0 W.toNat 0 n).length) 2 (prs (gridR (prvQ l sc g) 0 W.toNat 0 n))]) (.tup [.sl (some (H.length, 0)) ((gridR (prvQ l sc g) 0 W.toNat 0 n).length) (capG (gridR (prvQ l sc g) 0 W.toNat 0 n).length), .int .i64 0]) (resT Tryz.results19) [] rfl [1] (by decide) ⟨by first | (rw [hfinP.1, hfinP.2.1]; done) | (rw [hfinP.1, hfinP.2.1]; rfl) | (rw [hfinE, hfinN]; done) | (rw [hfinE, hfinN]; rfl) | (rw [hfinE, hfinG]; done) | skip, by first | (rw [hfinP.2.1]; rfl) | (rw [hfinN]; rfl) | (rw [hfinG]; rfl) | (rw [hfinG]; done) | skip⟩ ?_)
        exact absW
open Go.RowKit
def rngV (W Hh : Int) : Int := (((IntKind.i64.wrap (IntKind.i64.wrap (5 * W) + IntKind.i64.wrap (11 * Hh)) % 34).toNat : Nat) : Int)
theorem rngof_c (H : AHeap) (W : Int) (Hh : Int) (pp : AV) (xs : List Int) (hpp : Sl H 1 pp xs.length (ints .u8 xs)) : ACalls Tryz.prog 18 [.agg [.int .i64 W, .int .i64 Hh, pp]] H (fun v H' => v = .int .i64 (rngV W Hh) ∧ H' = H) := by
  obtain ⟨bpp, opp, cpp, rfl, hbpp⟩ := hpp
  have hblpp := getElem?_lt hbpp
  have hb0pp := fun l => get_app (l := l) hbpp
  refine AcT true Tryz.func18 ?_; intro hbel Q hQ
  have g'1 := (jn @hbpp @hb0pp)
  refine runTf g'1 ?_
  refine call_v (by kernel_rfl) (bmod_c _ (IntKind.i64.wrap ((IntKind.i64.wrap (5 * W)) + (IntKind.i64.wrap (11 * Hh)))) 34 (by omega) (by omega)) ?_
  refine runTf g'1 ?_
  exact hQ _ _ (end_plain (.inl rfl) hbel (x := .int .i64 ((((IntKind.i64.wrap ((IntKind.i64.wrap (5 * W)) + (IntKind.i64.wrap (11 * Hh)))) % 34).toNat : Nat) : Int)) (resT Tryz.results18) rfl ⟨rfl, rfl⟩)
open Go.RowKit
theorem lmat_c (H : AHeap) (W : Int) (Hh : Int) (pp : AV) (xs : List Int) (s : AV) (l : List T6) (q : AV) (sc : List (Int × Int)) (hpp : Sl H 1 pp xs.length (ints .u8 xs)) (hs : Sl H 6 s l.length (r6 l)) (hq : Sl H 2 q sc.length (prs sc)) : ACalls Tryz.prog 3 [.agg [.int .i64 W, .int .i64 Hh, pp], s, q] H (fun v H' => v = .bool true ∧ H' = H) := by
  obtain ⟨bpp, opp, cpp, rfl, hbpp⟩ := hpp
  have hblpp := getElem?_lt hbpp
  have hb0pp := fun l => get_app (l := l) hbpp
  obtain ⟨bs, os, cs, rfl, hbs⟩ := hs
  have hbls := getElem?_lt hbs
  have hb0s := fun l => get_app (l := l) hbs
  obtain ⟨bq, oq, cq, rfl, hbq⟩ := hq
  have hblq := getElem?_lt hbq
  have hb0q := fun l => get_app (l := l) hbq
  refine AcT false Tryz.func3 ?_; intro hbel Q hQ
  have g'1 := (jn @hbpp (jn @hb0pp (jn @hbs (jn @hb0s (jn @hbq @hb0q)))))
  refine runTf g'1 ?_
  refine call_v (by kernel_rfl) (awake_c _) ?_
  refine runTf g'1 ?_
  refine call_v (by kernel_rfl) (rfew_c _ W Hh _ xs _ l _ sc ⟨_, _, _, rfl, by first | exact hb0pp _ | exact hbpp⟩ ⟨_, _, _, rfl, by first | exact hb0s _ | exact hbs⟩ ⟨_, _, _, rfl, by first | exact hb0q _ | exact hbq⟩) ?_
  refine runTf g'1 ?_
  refine cond_split (fun h1 => ?_) (fun h1 => ?_)
  · have h1d := bsT h1
    have g'2 := (jn @h1 (jn @h1d g'1))
    refine runTf g'2 ?_
    refine call_v (by kernel_rfl) (awake_c _) ?_
    refine runTf g'2 ?_
    exact hQ _ _ (end_plain (.inl rfl) hbel (x := .bool true) (resT Tryz.results3) rfl ⟨rfl, rfl⟩)
  · have h1d := bsT h1
    have hfl := fewK_len h1d
    have g'3 := (jn @h1 (jn @h1d g'1))
    refine runTf g'3 ?_
    refine call_d (by kernel_rfl) (rngof_c _ W Hh _ xs ⟨_, _, _, rfl, by first | exact hb0pp _ | exact hbpp⟩) ?_
    refine runTf g'3 ?_
    refine call_x (by kernel_rfl) (by simp) (kProven_c _ W Hh _ xs _ l _ sc (rngV W Hh) ⟨_, _, _, rfl, by first | exact hb0pp _ | exact hbpp⟩ ⟨_, _, _, rfl, by first | exact hb0s _ | exact hbs⟩ ⟨_, _, _, rfl, by first | exact hb0q _ | exact hbq⟩ (by first | omega | simp) (by first | omega | simp)) ?_
    refine runTf g'3 ?_
    refine call_d (by kernel_rfl) (rngof_c _ W Hh _ xs ⟨_, _, _, rfl, by first | exact hb0pp _ | exact hbpp⟩) ?_
    refine runTf g'3 ?_
    refine call_x (by kernel_rfl) (by simp) (rProven_c _ W Hh _ xs _ l _ sc (rngV W Hh) ⟨_, _, _, rfl, by first | exact hb0pp _ | exact hbpp⟩ ⟨_, _, _, rfl, by first | exact hb0s _ | exact hbs⟩ ⟨_, _, _, rfl, by first | exact hb0q _ | exact hbq⟩ (by first | omega | simp) (by first | omega | simp)) ?_
    refine runTf g'3 ?_
    refine call_v (by kernel_rfl) (bcells_s _ _ (pvL W Hh xs l sc (rngV W Hh)) _ ⟨_, _, _, by first | rfl | (rw [List.length_append]; done) | (rw [List.length_append]; rfl), by first | rfl | (rw [get_newk]; rfl) | (rw [get_new0]; rfl) | (rw [get_newk, prs_append]; rfl) | (rw [get_new0, prs_append]; rfl)⟩ ⟨_, _, _, by first | rfl | (rw [List.length_append]; done) | (rw [List.length_append]; rfl), by first | rfl | (rw [get_newk]; rfl) | (rw [get_new0]; rfl) | (rw [get_newk, prs_append]; rfl) | (rw [get_new0, prs_append]; rfl)⟩ (by first | exact pvL_le | exact ssL_le | simp | omega)) ?_
    refine runTf g'3 ?_
    refine call_v (by kernel_rfl) (kPairs_c _ _ l ⟨_, _, _, rfl, by first | exact hb0s _ | exact hbs⟩ (by first | omega | simp)) ?_
    refine runTf g'3 ?_
    refine call_v (by kernel_rfl) (rpairs_c _ _ l ⟨_, _, _, rfl, by first | exact hb0s _ | exact hbs⟩ (by omega)) ?_
    refine runTf g'3 ?_
    exact hQ _ _ (end_plain (.inl rfl) hbel (x := .bool true) (resT Tryz.results3) rfl ⟨rfl, rfl⟩)
open Go.RowKit
set_option maxRecDepth 100000 in
theorem knownMatchesReference_top (H : AHeap) (xs : List AV) (hn : xs.length = 3) (hy : ∀ (j : Nat) (t : TypeId) (x : AV), [24, 25, 26][j]? = some t → xs[j]? = some x → ATy Tryz.prog H 9 t x) : ACalls Tryz.prog 3 xs H (fun v H' => v = .bool true ∧ H' = H) := by
  match xs, hn, hy with
  | [a0, a1, a2], _, hy =>
    obtain ⟨ys0, e0, r0_0⟩ := (hy 0 _ a0 rfl rfl).agg (ls := [3, 3, 22]) (by kernel_rfl) (by kernel_rfl)
    obtain ⟨y0_0, q0_0, rfl, t0_0, r0_1⟩ := r0_0.cons
    obtain ⟨z1, rfl, w1⟩ := t0_0.int (k := .i64) (by kernel_rfl)
    obtain ⟨y0_1, q0_1, rfl, t0_1, r0_2⟩ := r0_1.cons
    obtain ⟨z2, rfl, w2⟩ := t0_1.int (k := .i64) (by kernel_rfl)
    obtain ⟨y0_2, q0_2, rfl, t0_2, r0_3⟩ := r0_2.cons
    obtain ⟨l3, s3, m3, w3⟩ := t0_2.intsU (n := 7) (t := 22) (e := 5) (by kernel_rfl) (by kernel_rfl) (by kernel_rfl)
    obtain rfl := r0_3.nil
    subst e0
    have t1 := (hy 1 _ a1 rfl rfl).one (by kernel_rfl) (by kernel_rfl)
    obtain ⟨l4, s4, m4, w4⟩ := t1.rec6 (n := 7) (t := 25) (e := 58) (t1 := 3) (t2 := 3) (t3 := 3) (t4 := 3) (t5 := 3) (t6 := 3) (by kernel_rfl) (by kernel_rfl) (by kernel_rfl) (by kernel_rfl) (by kernel_rfl) (by kernel_rfl) (by kernel_rfl) (by kernel_rfl)
    have t2 := (hy 2 _ a2 rfl rfl).one (by kernel_rfl) (by kernel_rfl)
    obtain ⟨l5, s5, m5, w5⟩ := t2.pairsU (n := 7) (t := 26) (e := 37) (u := 3) (v := 3) (by kernel_rfl) (by kernel_rfl) (by kernel_rfl) (by kernel_rfl)
    exact lmat_c H z1 z2 _ l3 _ l4 _ l5 s3 s4 s5
section
open Go.ChangeShapes Go.WideShapes Go.ChangeAt Go.RowKit Go.Joins
open Go.ChangeMaps (open_string shut_string)
set_option maxRecDepth 100000 in
theorem knownMatchesReference_lifted (os : Os) (started : os.Started) (H : Type) (enc : TypeId × Value → H) :
    ReturnsInHanded {} Tryz.checked os 3 .any (Rows.knownMatchesReferenceSpec.pre6 enc Tryz.prog Tryz.f3 Rows.knownMatchesReferenceRow.domain false) (Rows.knownMatchesReferenceSpec.post enc Tryz.prog Tryz.f3 false true false false) := by
  refine returnsInHanded_of_change (C := Tryz.checked) own started (by kernel_rfl) Tryz.func3
    (ChangeSpec.witness6 (enc := enc) (C := Tryz.checked) false ⟨#[], #[.agg #[.int .i64 0, .int .i64 0, .slice none 0 0], .slice none 0 0, .slice none 0 0], []⟩ 8 (by kernel_rfl) (by kernel_rfl) (by kernel_rfl) (by kernel_rfl)) ?_
  intro W base args ds gs before hval0 hW hcnd _
  have hval : ∀ (j : Nat) t v, Tryz.f3.params[j]? = some t → args[j]? = some v → Value.okWide Tryz.prog W .any base t v := hval0
  have hW' := hW
  obtain ⟨p, q, hA0, hV, rfl, hfz, hnd⟩ := hW
  have hA : DataW.TrodAll enc Tryz.prog W 0 (fun _ => true) true Tryz.f3.params.toList args.toList ds p := hA0
  rw [Tryz.params3] at hA hval
  have hwalk := calls_top (n := 9) (f := 3) hA (fun j t v a b => hval j t v (by simpa using a) (by simpa using b)) (by kernel_rfl) (fun H xs hn hy => knownMatchesReference_top H xs hn hy)
  rw [Array.toArray_toList] at hwalk
  obtain ⟨v0, vs0, d0, ds0, p0, q0, hargs, rfl, rfl, h0, r0⟩ := trodAll_cons hA
  obtain ⟨v1, vs1, d1, ds1, p1, q1, rfl, rfl, rfl, h1, r1⟩ := trodAll_cons r0
  obtain ⟨v2, vs2, d2, ds2, p2, q2, rfl, rfl, rfl, h2, r2⟩ := trodAll_cons r1
  obtain ⟨rfl, rfl, rfl⟩ := trodAll_nil r2
  obtain rfl : args = #[v0, v1, v2] := by cases args; simp_all
  obtain ⟨rfl, rfl⟩ := trodVars_none hV
  have k0 := h0
  have lt0 : ∀ x ∈ p0, x.block < W.heap.size := by obtain ⟨m, hm⟩ := k0; exact DataW.trod_lt m _ _ _ hm
  have k1 := h1
  have lt1 : ∀ x ∈ p1, x.block < W.heap.size := by obtain ⟨m, hm⟩ := k1; exact DataW.trod_lt m _ _ _ hm
  have k2 := h2
  have lt2 : ∀ x ∈ p2, x.block < W.heap.size := by obtain ⟨m, hm⟩ := k2; exact DataW.trod_lt m _ _ _ hm
  clear hA0 hval0
  refine hwalk.mono fun e W' ⟨he, bel⟩ => ?_
  subst he
  exact ⟨_, rfl, _, _, _, [], _, [], hW', trodAll_mk1 (shut_bool Tryz.underlying4 _), (trodAll_cons_mk (Below.trod laidOut (by kernel_rfl) (of_decide_eq_true (by kernel_rfl)) k0 bel lt0) (trodAll_cons_mk (Below.trod laidOut (by kernel_rfl) (of_decide_eq_true (by kernel_rfl)) k1 bel lt1) (trodAll_cons_mk (Below.trod laidOut (by kernel_rfl) (of_decide_eq_true (by kernel_rfl)) k2 bel lt2) trodAll_mk0))), rfl, bel.frame _, fun h => by cases h⟩
theorem and_t {a b : Bool} (h : a = true) (k : b = true) : (a && b) = true := by rw [h, k]; rfl
theorem knownMatchesReference_h0 : (Rows.knownMatchesReferenceRow.inPlace == Tryz.pinned.checked.prog.inPlace 3) = true := by kernel_rfl
theorem knownMatchesReference_h1 : (Rows.knownMatchesReferenceRow.unfollowed == Tryz.pinned.checked.prog.unfollowed 3) = true := by kernel_rfl
theorem knownMatchesReference_h2 : (Rows.knownMatchesReferenceRow.recurses == Tryz.pinned.checked.prog.recurses 3) = true := by kernel_rfl
theorem knownMatchesReference_h3 : (Rows.knownMatchesReferenceRow.named == Tryz.pinned.checked.prog.varsNamed 3) = true := by kernel_rfl
theorem knownMatchesReference_h4 : Tryz.pinned.checked.prog.stopsHeard = true := by kernel_rfl
theorem knownMatchesReference_h5 : Tryz.pinned.checked.prog.mayEnter = true := by kernel_rfl
theorem knownMatchesReference_h6 : (Rows.knownMatchesReferenceRow.lifted == Tryz.pinned.checked.prog.liftsFinal) = true := by kernel_rfl
theorem knownMatchesReference_closed : joinedFacts Tryz.pinned.checked.prog 3 Tryz.f3 Rows.knownMatchesReferenceSpec Rows.knownMatchesReferenceRow = true := by
  unfold joinedFacts
  exact (and_t (and_t (and_t (and_t (and_t (and_t (and_t (and_t (and_t (and_t (and_t (and_t (and_t (and_t (and_t (and_t (and_t (and_t (and_t (and_t (and_t (and_t (and_t (and_t (and_t (and_t (and_t (and_t (and_t (and_t (and_t (by kernel_rfl) laidOut) (by kernel_rfl)) (by kernel_rfl)) (by kernel_rfl)) (by kernel_rfl)) (by kernel_rfl)) (by kernel_rfl)) (by kernel_rfl)) knownMatchesReference_h0) knownMatchesReference_h1) knownMatchesReference_h2) knownMatchesReference_h3) (by kernel_rfl)) (by kernel_rfl)) (by kernel_rfl)) (by kernel_rfl)) (by kernel_rfl)) (by kernel_rfl)) (by kernel_rfl)) (by kernel_rfl)) (by kernel_rfl)) (by kernel_rfl)) (by kernel_rfl)) knownMatchesReference_h4) knownMatchesReference_h5) knownMatchesReference_h6) (by kernel_rfl)) (by kernel_rfl)) (by kernel_rfl)) (by kernel_rfl)) (by kernel_rfl))
theorem knownMatchesReference_over : Rows.knownMatchesReferenceRow.holds Tryz.pinned (OpenSpec.ofChange Rows.knownMatchesReferenceSpec) :=
  OpenClaim.holds_of_wide 3 Tryz.f3 rfl rfl rfl rfl rfl rfl rfl ⟨rfl, rfl, rfl, rfl, rfl⟩ rfl rfl rfl rfl rfl (by kernel_rfl) Tryz.func3 knownMatchesReference_closed
    (of_decide_eq_true (by kernel_rfl)) (by unfold Func.isWrapper; rw [if_neg (by decide +kernel)]; exact ⟨rfl, rfl⟩)
    (fun os started H enc _ => knownMatchesReference_lifted os started H enc)
/-- The given statement. -/
theorem knownMatchesReference_proved : Rows.KnownMatchesReferenceSaid := knownMatchesReference_over
end
end Go.Proofs.YteieacinbfimlaaGreat
