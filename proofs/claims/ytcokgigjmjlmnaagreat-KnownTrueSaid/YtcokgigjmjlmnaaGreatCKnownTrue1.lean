/- Proved: the law KnownTrue returns true on every input, and its arguments read afterwards as before. Conditions: none beyond the given row's. -/
import Derived.Test.YtcokgigjmjlmnaaGreatC4
import Derived.Test.YtcokgigjmjlmnaaGreatC3
import Derived.Test.YtcokgigjmjlmnaaGreatC5
namespace Go.Proofs.YtcokgigjmjlmnaaGreat
set_option linter.unusedSimpArgs false
set_option linter.unusedVariables false
open Go.RowKit
set_option maxHeartbeats 4000000
set_option maxRecDepth 100000
theorem clg_r (n lo hi : Int) : (if lo < (if hi < n then hi else n) then (if hi < n then hi else n) else lo) = clgI n lo hi := rfl
theorem bclipg_c (H : AHeap) (n lo hi : Int) : ACalls Tryz.prog 37 [.int .i64 n, .int .i64 lo, .int .i64 hi] H (fun v H' => v = .int .i64 (clgI n lo hi) ∧ H' = H) := by
  have hcl := clg_r n lo hi
  refine AcT true Tryz.func37 ?_; intro hbel Q hQ
  have g'1 := @hcl
  refine runTf g'1 ?_
  exact hQ _ _ (end_plain0 (.inl rfl) hbel (x := .int .i64 (clgI n lo hi)) (resT Tryz.results37) rfl ⟨rfl, rfl⟩)
theorem r5pt_c (H : AHeap) (x : Int) (y : Int) : ACalls Tryz.prog 372 [.agg [.int .i64 x, .int .i64 y]] H (fun v H' => v = .bool (lnP x y) ∧ H' = H) := by
  refine AcT true Tryz.func372 ?_; intro hbel Q hQ
  refine runT ?_
  refine call_v (by kernel_rfl) (bsize_c _ _ _ (by decide)) ?_
  refine runT ?_
  refine gd_split (fun h1 => ?_) (fun h1 => ?_)
  · have h1d := bsT h1
    have g'4 := (jn @h1 @h1d)
    refine runTf g'4 ?_
    refine call_v (by kernel_rfl) (bsize_c _ _ _ (by decide)) ?_
    refine runTf g'4 ?_
    exact hQ _ _ (end_plain (.inl rfl) hbel (x := .bool (within y 2097152)) (resT Tryz.results372) rfl ⟨by simp [lnP, h1d], rfl⟩)
  · have h1d := bsT h1
    have g'5 := (jn @h1 @h1d)
    refine runTf g'5 ?_
    exact hQ _ _ (end_plain (.inl rfl) hbel (x := .bool false) (resT Tryz.results372) rfl ⟨by simp [lnP, h1d], rfl⟩)
theorem r5rc_c (H : AHeap) (x0 : Int) (y0 : Int) (x1 : Int) (y1 : Int) : ACalls Tryz.prog 373 [.agg [.int .i64 x0, .int .i64 y0, .int .i64 x1, .int .i64 y1]] H (fun v H' => v = .bool (lnR x0 y0 x1 y1) ∧ H' = H) := by
  refine AcT true Tryz.func373 ?_; intro hbel Q hQ
  refine runT ?_
  refine gd_split (fun h1 => ?_) (fun h1 => ?_)
  · have h1d := bsT h1
    have g'6 := (jn @h1 @h1d)
    refine runTf g'6 ?_
    refine gd_split (fun h2 => ?_) (fun h2 => ?_)
    · have h2d := bsT h2
      have g'7 := (jn @h2 (jn @h2d g'6))
      refine runTf g'7 ?_
      refine gd_split (fun h3 => ?_) (fun h3 => ?_)
      · have h3d := bsT h3
        have g'8 := (jn @h3 (jn @h3d g'7))
        refine runTf g'8 ?_
        refine gd_split (fun h4 => ?_) (fun h4 => ?_)
        · have h4d := bsT h4
          have g'9 := (jn @h4 (jn @h4d g'8))
          refine runTf g'9 ?_
          refine gd_split (fun h5 => ?_) (fun h5 => ?_)
          · have h5d := bsT h5
            have g'10 := (jn @h5 (jn @h5d g'9))
            refine runTf g'10 ?_
            exact hQ _ _ (end_plain (.inl rfl) hbel (x := .bool (decide (y1 ≤ 2097152))) (resT Tryz.results373) rfl ⟨by simp [lnR, h1d, h2d, h3d, h4d, h5d], rfl⟩)
          · have h5d := bsT h5
            have g'11 := (jn @h5 (jn @h5d g'9))
            refine runTf g'11 ?_
            exact hQ _ _ (end_plain (.inl rfl) hbel (x := .bool false) (resT Tryz.results373) rfl ⟨by simp [lnR, h1d, h2d, h3d, h4d, h5d], rfl⟩)
        · have h4d := bsT h4
          have g'12 := (jn @h4 (jn @h4d g'8))
          refine runTf g'12 ?_
          exact hQ _ _ (end_plain (.inl rfl) hbel (x := .bool false) (resT Tryz.results373) rfl ⟨by simp [lnR, h1d, h2d, h3d, h4d], rfl⟩)
      · have h3d := bsT h3
        have g'13 := (jn @h3 (jn @h3d g'7))
        refine runTf g'13 ?_
        exact hQ _ _ (end_plain (.inl rfl) hbel (x := .bool false) (resT Tryz.results373) rfl ⟨by simp [lnR, h1d, h2d, h3d], rfl⟩)
    · have h2d := bsT h2
      have g'14 := (jn @h2 (jn @h2d g'6))
      refine runTf g'14 ?_
      exact hQ _ _ (end_plain (.inl rfl) hbel (x := .bool false) (resT Tryz.results373) rfl ⟨by simp [lnR, h1d, h2d], rfl⟩)
  · have h1d := bsT h1
    have g'15 := (jn @h1 @h1d)
    refine runTf g'15 ?_
    exact hQ _ _ (end_plain (.inl rfl) hbel (x := .bool false) (resT Tryz.results373) rfl ⟨by simp [lnR, h1d], rfl⟩)
open Go.RowKit
theorem tmS_hn {px py vx vy vd x0 y0 x1 y1 : Int} (hg : thG px py vx vy vd x0 y0 x1 y1 = true) (h : tmE px py vx vy x0 y0 x1 y1 = false) : 0 ≤ (tmS px py vx vy x0 y0 x1 y1).2.1 := by
  have hv := (thG_vec hg).2
  have ho : okS (tmS px py vx vy x0 y0 x1 y1) := tmS_ok hv
  have k := (inS_lo ho).1 ((tmE_f hv).1 h).2
  have hl : 0 ≤ (tmS px py vx vy x0 y0 x1 y1).1.1 := tmS_nn
  generalize tmS px py vx vy x0 y0 x1 y1 = s at *
  have h1 := ho.1
  have h2 := ho.2
  rcases Int.lt_or_le s.2.1 0 with q | q
  · have a1 := Int.mul_neg_of_neg_of_pos q h1
    have a2 := Int.mul_nonneg hl (show 0 ≤ s.2.2 by omega)
    omega
  · exact q
/-- The ray meets the rectangle, by the reference. -/
def rO (px py vx vy vd x0 y0 x1 y1 : Int) : Bool := thG px py vx vy vd x0 y0 x1 y1 && !tmE px py vx vy x0 y0 x1 y1
theorem rO_t {px py vx vy vd x0 y0 x1 y1 : Int} (h : rO px py vx vy vd x0 y0 x1 y1 = true) : thG px py vx vy vd x0 y0 x1 y1 = true ∧ tmE px py vx vy x0 y0 x1 y1 = false := by
  unfold rO at h; simpa using h
def enN (px py vx vy vd x0 y0 x1 y1 : Int) : Int := lwN ((tmS px py vx vy x0 y0 x1 y1).1.1 * vd) (tmS px py vx vy x0 y0 x1 y1).1.2
def enD (px py vx vy vd x0 y0 x1 y1 : Int) : Int := lwD ((tmS px py vx vy x0 y0 x1 y1).1.1 * vd) (tmS px py vx vy x0 y0 x1 y1).1.2
def lvN (px py vx vy vd x0 y0 x1 y1 : Int) : Int := lwN ((tmS px py vx vy x0 y0 x1 y1).2.1 * vd) (tmS px py vx vy x0 y0 x1 y1).2.2
def lvD (px py vx vy vd x0 y0 x1 y1 : Int) : Int := lwD ((tmS px py vx vy x0 y0 x1 y1).2.1 * vd) (tmS px py vx vy x0 y0 x1 y1).2.2
theorem en_bd {px py vx vy vd x0 y0 x1 y1 : Int} (h : rO px py vx vy vd x0 y0 x1 y1 = true) : ((0 ≤ enN px py vx vy vd x0 y0 x1 y1 ∧ enN px py vx vy vd x0 y0 x1 y1 ≤ 562949953421312) ∧ 0 < enD px py vx vy vd x0 y0 x1 y1 ∧ enD px py vx vy vd x0 y0 x1 y1 ≤ 67108864) ∧ (0 ≤ lvN px py vx vy vd x0 y0 x1 y1 ∧ lvN px py vx vy vd x0 y0 x1 y1 ≤ 562949953421312) ∧ 0 < lvD px py vx vy vd x0 y0 x1 y1 ∧ lvD px py vx vy vd x0 y0 x1 y1 ≤ 67108864 := by
  obtain ⟨hg, he⟩ := rO_t h
  obtain ⟨⟨b1, b2⟩, b3, b4⟩ := tmS_bd hg
  have hn : 0 ≤ (tmS px py vx vy x0 y0 x1 y1).1.1 := tmS_nn
  have hh := tmS_hn hg he
  have hv := vecB_iff.1 (thG_iff.1 hg).2.1
  have m1 := mul_bd (a := (tmS px py vx vy x0 y0 x1 y1).1.1) (b := vd) (A := 8388608) (B := 67108864) (by omega) (by omega)
  have m2 := mul_bd (a := (tmS px py vx vy x0 y0 x1 y1).2.1) (b := vd) (A := 8388608) (B := 67108864) (by omega) (by omega)
  have n1 := Int.mul_nonneg hn (show 0 ≤ vd by omega)
  have n2 := Int.mul_nonneg hh (show 0 ≤ vd by omega)
  have q1 := lw_bd (n := (tmS px py vx vy x0 y0 x1 y1).1.1 * vd) (d := (tmS px py vx vy x0 y0 x1 y1).1.2) (B := 562949953421312) (by omega) (by omega)
  have q2 := lw_bd (n := (tmS px py vx vy x0 y0 x1 y1).2.1 * vd) (d := (tmS px py vx vy x0 y0 x1 y1).2.2) (B := 562949953421312) (by omega) (by omega)
  unfold enN enD lvN lvD
  omega
theorem en_le {px py vx vy vd x0 y0 x1 y1 hi : Int} (h : rO px py vx vy vd x0 y0 x1 y1 = true) : (enN px py vx vy vd x0 y0 x1 y1 ≤ hi * enD px py vx vy vd x0 y0 x1 y1 ↔ (tmS px py vx vy x0 y0 x1 y1).1.1 * vd ≤ hi * (tmS px py vx vy x0 y0 x1 y1).1.2) ∧ (enN px py vx vy vd x0 y0 x1 y1 < hi * enD px py vx vy vd x0 y0 x1 y1 ↔ (tmS px py vx vy x0 y0 x1 y1).1.1 * vd < hi * (tmS px py vx vy x0 y0 x1 y1).1.2) ∧ (hi * lvD px py vx vy vd x0 y0 x1 y1 ≤ lvN px py vx vy vd x0 y0 x1 y1 ↔ hi * (tmS px py vx vy x0 y0 x1 y1).2.2 ≤ (tmS px py vx vy x0 y0 x1 y1).2.1 * vd) := by
  obtain ⟨hg, he⟩ := rO_t h
  have ho : okS (tmS px py vx vy x0 y0 x1 y1) := tmS_ok (thG_vec hg).2
  exact ⟨(lw_le ho.1).1, lw_lt ho.1, (lw_le ho.2).2⟩
theorem ax_neg {p d a b : Int} (h : d < 0) : (sbL (0 - p) (0 - d) (0 - b) (0 - a) = sbL p d a b ∧ sbH (0 - p) (0 - d) (0 - b) (0 - a) = sbH p d a b) := by
  unfold sbL sbH
  simp only [if_neg (show ¬ 0 - d < 0 by omega), if_pos h]
  exact ⟨Prod.ext (by simp only; omega) (by simp only; omega), Prod.ext (by simp only; omega) (by simp only; omega)⟩
/-- What an axis of the reference hands back. -/
def axI (d n : Int) : Int := if d = 0 then 0 else n
def axA (p d a b : Int) : Bool := decide (d = 0) && !axE p d a b
theorem axE_n {p d a b : Int} (h : ¬ d = 0) : axE p d a b = false ∧ axA p d a b = false := by
  unfold axA axE; rw [decide_eq_false h]; exact ⟨rfl, rfl⟩
def tiV (px py vx vy x0 y0 x1 y1 : Int) : Fr2 × Fr2 := if tmE px py vx vy x0 y0 x1 y1 = true then ((0, 0), (0, 0)) else tmS px py vx vy x0 y0 x1 y1
theorem lw_tdiv {n d : Int} (hn : 0 ≤ n) (hd : 0 < d) : Int.tdiv n (Int.gcd n d : Int) = lwN n d ∧ Int.tdiv d (Int.gcd n d : Int) = lwD n d := ⟨Int.tdiv_eq_ediv_of_nonneg hn, Int.tdiv_eq_ediv_of_nonneg (by omega)⟩
theorem axis0_c (H : AHeap) (p : Int) (d : Int) (a : Int) (b : Int) (h1 : -2097152 ≤ p ∧ p ≤ 2097152) (h2 : -67108864 ≤ d ∧ d ≤ 67108864) (h3 : -2097152 ≤ a ∧ a ≤ 2097152) (h4 : -2097152 ≤ b ∧ b ≤ 2097152) (hd0 : 0 ≤ d) : ACalls Tryz.prog 374 [.int .i64 p, .int .i64 d, .int .i64 a, .int .i64 b] H (fun v H' => v = .agg [.int .i64 (axI d (sbL p d a b).1), .int .i64 (axI d (sbL p d a b).2), .int .i64 (axI d (sbH p d a b).1), .int .i64 (axI d (sbH p d a b).2), .bool (axE p d a b), .bool (axA p d a b)] ∧ H' = H) := by
  have hnn : decide (d < 0) = false := decide_eq_false (by omega)
  refine AcT true Tryz.func374 ?_; intro hbel Q hQ
  have g'1 := @hnn
  refine runTf g'1 ?_
  refine gd_split (fun h1 => ?_) (fun h1 => ?_)
  · have h1d := bsT h1
    have h1n := bnT h1
    have hd : d = 0 := by simpa using h1d
    have g'2 := (jn @h1 (jn @h1n (jn @int_bne (jn @int_beq g'1))))
    refine runTf g'2 ?_
    refine gd_split (fun h2 => ?_) (fun h2 => ?_)
    · have h2d := bsT h2
      have g'3 := (jn @h2 (jn @h2d g'2))
      refine runTf g'3 ?_
      refine cond_split (fun h3 => ?_) (fun h3 => ?_)
      · have h3d := bsT h3
        have g'4 := (jn @h3 (jn @h3d g'3))
        refine runTf g'4 ?_
        exact hQ _ _ (end_plain (.inl rfl) hbel (x := .agg [.int .i64 0, .int .i64 0, .int .i64 0, .int .i64 0, .bool true, .bool false]) (resT Tryz.results374) rfl ⟨by first | (simp [axI, axE, axA, hd, h2d, h3d, h1d]; done) | (simp [axI, axE, axA, sbL, sbH, hd, hdp, h2d, h3d, h1d]; done) | skip, rfl⟩)
      · have h3d := bsT h3
        have g'5 := (jn @h3 (jn @h3d g'3))
        refine runTf g'5 ?_
        exact hQ _ _ (end_plain (.inl rfl) hbel (x := .agg [.int .i64 0, .int .i64 0, .int .i64 0, .int .i64 0, .bool false, .bool true]) (resT Tryz.results374) rfl ⟨by first | (simp [axI, axE, axA, hd, h2d, h3d, h1d]; done) | (simp [axI, axE, axA, sbL, sbH, hd, hdp, h2d, h3d, h1d]; done) | skip, rfl⟩)
    · have h2d := bsT h2
      have g'6 := (jn @h2 (jn @h2d g'2))
      refine runTf g'6 ?_
      exact hQ _ _ (end_plain (.inl rfl) hbel (x := .agg [.int .i64 0, .int .i64 0, .int .i64 0, .int .i64 0, .bool true, .bool false]) (resT Tryz.results374) rfl ⟨by first | (simp [axI, axE, axA, hd, h2d, h1d]; done) | (simp [axI, axE, axA, sbL, sbH, hd, hdp, h2d, h1d]; done) | skip, rfl⟩)
  · have h1d := bsT h1
    have h1n := bnT h1
    have hd : ¬ d = 0 := by simpa using h1d
    have hdp : ¬ d < 0 := by omega
    have g'7 := (jn @h1 (jn @h1n (jn @int_bne (jn @int_beq g'1))))
    refine runTf g'7 ?_
    exact hQ _ _ (end_plain (.inl rfl) hbel (x := .agg [.int .i64 (a - p), .int .i64 d, .int .i64 (b - p), .int .i64 d, .bool false, .bool false]) (resT Tryz.results374) rfl ⟨by first | (simp [axI, axE, axA, hd, h1d]; done) | (simp [axI, axE, axA, sbL, sbH, hd, hdp, h1d]; done) | skip, rfl⟩)
theorem axis_c (H : AHeap) (p : Int) (d : Int) (a : Int) (b : Int) (h1 : -2097152 ≤ p ∧ p ≤ 2097152) (h2 : -67108864 ≤ d ∧ d ≤ 67108864) (h3 : -2097152 ≤ a ∧ a ≤ 2097152) (h4 : -2097152 ≤ b ∧ b ≤ 2097152) : ACalls Tryz.prog 374 [.int .i64 p, .int .i64 d, .int .i64 a, .int .i64 b] H (fun v H' => v = .agg [.int .i64 (axI d (sbL p d a b).1), .int .i64 (axI d (sbL p d a b).2), .int .i64 (axI d (sbH p d a b).1), .int .i64 (axI d (sbH p d a b).2), .bool (axE p d a b), .bool (axA p d a b)] ∧ H' = H) := by
  refine AcT true Tryz.func374 ?_; intro hbel Q hQ
  refine runT ?_
  refine gd_split (fun h1 => ?_) (fun h1 => ?_)
  · have h1d := bsT h1
    have h1n := bnT h1
    have hd : d = 0 := by simpa using h1d
    have g'8 := (jn @h1 (jn @h1n (jn @int_bne @int_beq)))
    refine runTf g'8 ?_
    refine gd_split (fun h2 => ?_) (fun h2 => ?_)
    · have h2d := bsT h2
      have g'9 := (jn @h2 (jn @h2d g'8))
      refine runTf g'9 ?_
      refine cond_split (fun h3 => ?_) (fun h3 => ?_)
      · have h3d := bsT h3
        have g'10 := (jn @h3 (jn @h3d g'9))
        refine runTf g'10 ?_
        exact hQ _ _ (end_plain (.inl rfl) hbel (x := .agg [.int .i64 0, .int .i64 0, .int .i64 0, .int .i64 0, .bool true, .bool false]) (resT Tryz.results374) rfl ⟨by first | (rw [hax.1, hax.2, hx1.1, hx1.2, hx0.1, hx0.2]; unfold axI; rw [if_neg hd, if_neg hd, if_neg hd, if_neg hd, if_neg (show ¬ 0 - d = 0 by omega), if_neg (show ¬ 0 - d = 0 by omega), if_neg (show ¬ 0 - d = 0 by omega), if_neg (show ¬ 0 - d = 0 by omega)]; done) | (simp [axI, axE, axA, hd, h2d, h3d, h1d]; done) | (simp [axI, axE, axA, sbL, sbH, hd, hdp, h2d, h3d, h1d]; done) | skip, rfl⟩)
      · have h3d := bsT h3
        have g'11 := (jn @h3 (jn @h3d g'9))
        refine runTf g'11 ?_
        exact hQ _ _ (end_plain (.inl rfl) hbel (x := .agg [.int .i64 0, .int .i64 0, .int .i64 0, .int .i64 0, .bool false, .bool true]) (resT Tryz.results374) rfl ⟨by first | (rw [hax.1, hax.2, hx1.1, hx1.2, hx0.1, hx0.2]; unfold axI; rw [if_neg hd, if_neg hd, if_neg hd, if_neg hd, if_neg (show ¬ 0 - d = 0 by omega), if_neg (show ¬ 0 - d = 0 by omega), if_neg (show ¬ 0 - d = 0 by omega), if_neg (show ¬ 0 - d = 0 by omega)]; done) | (simp [axI, axE, axA, hd, h2d, h3d, h1d]; done) | (simp [axI, axE, axA, sbL, sbH, hd, hdp, h2d, h3d, h1d]; done) | skip, rfl⟩)
    · have h2d := bsT h2
      have g'12 := (jn @h2 (jn @h2d g'8))
      refine runTf g'12 ?_
      exact hQ _ _ (end_plain (.inl rfl) hbel (x := .agg [.int .i64 0, .int .i64 0, .int .i64 0, .int .i64 0, .bool true, .bool false]) (resT Tryz.results374) rfl ⟨by first | (rw [hax.1, hax.2, hx1.1, hx1.2, hx0.1, hx0.2]; unfold axI; rw [if_neg hd, if_neg hd, if_neg hd, if_neg hd, if_neg (show ¬ 0 - d = 0 by omega), if_neg (show ¬ 0 - d = 0 by omega), if_neg (show ¬ 0 - d = 0 by omega), if_neg (show ¬ 0 - d = 0 by omega)]; done) | (simp [axI, axE, axA, hd, h2d, h1d]; done) | (simp [axI, axE, axA, sbL, sbH, hd, hdp, h2d, h1d]; done) | skip, rfl⟩)
  · have h1d := bsT h1
    have h1n := bnT h1
    have hd : ¬ d = 0 := by simpa using h1d
    have g'13 := (jn @h1 (jn @h1n (jn @int_bne @int_beq)))
    refine runTf g'13 ?_
    refine cond_split (fun h4 => ?_) (fun h4 => ?_)
    · have h4d := bsT h4
      have hdn := h4d
      have hax := ax_neg (p := p) (a := a) (b := b) hdn
      have hx0 := axE_n (p := p) (a := a) (b := b) hd
      have hx1 := axE_n (p := 0 - p) (d := 0 - d) (a := 0 - b) (b := 0 - a) (by omega)
      have g'14 := (jn @h4 (jn @h4d g'13))
      refine runTf g'14 ?_
      refine call_v (by kernel_rfl) (axis0_c _ (0 - p) (0 - d) (0 - b) (0 - a) (by omega) (by omega) (by omega) (by omega) (by omega)) ?_
      refine runTf g'14 ?_
      exact hQ _ _ (end_plain (.inl rfl) hbel (x := .agg [.int .i64 (axI (0 - d) (sbL (0 - p) (0 - d) (0 - b) (0 - a)).1), .int .i64 (axI (0 - d) (sbL (0 - p) (0 - d) (0 - b) (0 - a)).2), .int .i64 (axI (0 - d) (sbH (0 - p) (0 - d) (0 - b) (0 - a)).1), .int .i64 (axI (0 - d) (sbH (0 - p) (0 - d) (0 - b) (0 - a)).2), .bool (axE (0 - p) (0 - d) (0 - b) (0 - a)), .bool (axA (0 - p) (0 - d) (0 - b) (0 - a))]) (resT Tryz.results374) rfl ⟨by first | (rw [hax.1, hax.2, hx1.1, hx1.2, hx0.1, hx0.2]; unfold axI; rw [if_neg hd, if_neg hd, if_neg hd, if_neg hd, if_neg (show ¬ 0 - d = 0 by omega), if_neg (show ¬ 0 - d = 0 by omega), if_neg (show ¬ 0 - d = 0 by omega), if_neg (show ¬ 0 - d = 0 by omega)]; done) | (simp [axI, axE, axA, hd, h4d, h1d]; done) | (simp [axI, axE, axA, sbL, sbH, hd, hdp, h4d, h1d]; done) | skip, rfl⟩)
    · have h4d := bsT h4
      have hdp : ¬ d < 0 := h4d
      have g'15 := (jn @h4 (jn @h4d g'13))
      refine runTf g'15 ?_
      exact hQ _ _ (end_plain (.inl rfl) hbel (x := .agg [.int .i64 (a - p), .int .i64 d, .int .i64 (b - p), .int .i64 d, .bool false, .bool false]) (resT Tryz.results374) rfl ⟨by first | (rw [hax.1, hax.2, hx1.1, hx1.2, hx0.1, hx0.2]; unfold axI; rw [if_neg hd, if_neg hd, if_neg hd, if_neg hd, if_neg (show ¬ 0 - d = 0 by omega), if_neg (show ¬ 0 - d = 0 by omega), if_neg (show ¬ 0 - d = 0 by omega), if_neg (show ¬ 0 - d = 0 by omega)]; done) | (simp [axI, axE, axA, hd, h4d, h1d]; done) | (simp [axI, axE, axA, sbL, sbH, hd, hdp, h4d, h1d]; done) | skip, rfl⟩)
theorem axis_z (H : AHeap) (p d a b : Int) (h1 : -2097152 ≤ p ∧ p ≤ 2097152) (h2 : -67108864 ≤ d ∧ d ≤ 67108864) (h3 : -2097152 ≤ a ∧ a ≤ 2097152) (h4 : -2097152 ≤ b ∧ b ≤ 2097152) (h : decide (d = 0) = true) : ACalls Tryz.prog 374 [.int .i64 p, .int .i64 d, .int .i64 a, .int .i64 b] H (fun v H' => v = .agg [.int .i64 0, .int .i64 0, .int .i64 0, .int .i64 0, .bool (axE p d a b), .bool (!(axE p d a b))] ∧ H' = H) := by
  have q := axis_c H p d a b h1 h2 h3 h4
  unfold axA axI at q
  rw [h, if_pos (of_decide_eq_true h), if_pos (of_decide_eq_true h), if_pos (of_decide_eq_true h), if_pos (of_decide_eq_true h), Bool.true_and] at q
  exact q
theorem axis_n (H : AHeap) (p d a b : Int) (h1 : -2097152 ≤ p ∧ p ≤ 2097152) (h2 : -67108864 ≤ d ∧ d ≤ 67108864) (h3 : -2097152 ≤ a ∧ a ≤ 2097152) (h4 : -2097152 ≤ b ∧ b ≤ 2097152) (h : decide (d = 0) = false) : ACalls Tryz.prog 374 [.int .i64 p, .int .i64 d, .int .i64 a, .int .i64 b] H (fun v H' => v = .agg [.int .i64 (sbL p d a b).1, .int .i64 (sbL p d a b).2, .int .i64 (sbH p d a b).1, .int .i64 (sbH p d a b).2, .bool false, .bool false] ∧ H' = H) := by
  have q := axis_c H p d a b h1 h2 h3 h4
  have e := axE_n (p := p) (a := a) (b := b) (of_decide_eq_false h)
  unfold axI at q
  rw [if_neg (of_decide_eq_false h), if_neg (of_decide_eq_false h), if_neg (of_decide_eq_false h), if_neg (of_decide_eq_false h), e.1, e.2] at q
  exact q
open Go.RowKit
theorem times_c (H : AHeap) (px : Int) (py : Int) (vx : Int) (vy : Int) (vd : Int) (x0 : Int) (y0 : Int) (x1 : Int) (y1 : Int) (hg : thG px py vx vy vd x0 y0 x1 y1 = true) : ACalls Tryz.prog 310 [.agg [.int .i64 px, .int .i64 py], .agg [.int .i64 vx, .int .i64 vy, .int .i64 vd], .agg [.int .i64 x0, .int .i64 y0, .int .i64 x1, .int .i64 y1]] H (fun v H' => v = .agg [.int .i64 ((tiV px py vx vy x0 y0 x1 y1).1.1), .int .i64 ((tiV px py vx vy x0 y0 x1 y1).1.2), .int .i64 ((tiV px py vx vy x0 y0 x1 y1).2.1), .int .i64 ((tiV px py vx vy x0 y0 x1 y1).2.2), .bool (tmE px py vx vy x0 y0 x1 y1), .bool false] ∧ H' = H) := by
  have hz := (thG_vec hg).2
  have hvP := lnP_iff.1 (thG_iff.1 hg).1
  have hvV := vecB_iff.1 (thG_iff.1 hg).2.1
  have hvR := lnR_iff.1 (thG_iff.1 hg).2.2
  (refine ACalls_pieces Tryz.func310 _ rfl (Nat.le_of_ble_eq_true (by kernel_rfl)) rfl ?_; intro hbel Q hQ hQ' c hc; unfold Tryz.f310 at hc; simp only [Option.some.injEq] at hc; subst hc; clear hQ')
  refine AW_seqQ fun Q1 hn1 hr1 he1 => ?_
  have hQ1 := fun F H' h => hr1 F H' (hQ F H' h)
  refine AW_fin true try_mixed (by kernel_rfl) ?_
  refine runT ?_
  refine hn1 _ _ ?_
  refine AW_seqQ fun Q2 hn2 hr2 he2 => ?_
  have hQ2 := fun F H' h => hr2 F H' (hQ F H' h)
  refine AW_fin true try_mixed (by kernel_rfl) ?_
  refine runT ?_
  rcases Bool.eq_false_or_eq_true (decide (vx = 0)) with h1 | h1
  · have h1d := h1
    have hX0 : vx = 0 := by simpa using h1d
    refine call_v (by kernel_rfl) (axis_z _ px vx x0 x1 (by omega) (by omega) (by omega) (by omega) (by assumption)) ?_
    have g'1 := (jn @h1 @h1d)
    refine runTf g'1 ?_
    refine hn2 _ _ ?_
    refine AW_seqQ fun Q3 hn3 hr3 he3 => ?_
    have hQ3 := fun F H' h => hr3 F H' (hQ F H' h)
    refine AW_fin true try_mixed (by kernel_rfl) ?_
    refine runTf g'1 ?_
    rcases Bool.eq_false_or_eq_true (decide (vy = 0)) with h2 | h2
    · have h2d := h2
      have hY0 : vy = 0 := by simpa using h2d
      exact absurd ⟨hX0, hY0⟩ hz
    · have h2d := h2
      have hnY : ¬ vy = 0 := by simpa using h2d
      have haY := (axE_n (p := py) (a := y0) (b := y1) hnY).1
      have hbY := sb_bd (p := py) (d := vy) (a := y0) (b := y1) (by omega) (by omega) (by omega) (by omega) hnY
      obtain ⟨⟨hbY1, hbY2, hbY3⟩, hbY4, hbY5, hbY6⟩ := hbY
      have hpy5 := mul_bd (a := (sbL py vy y0 y1).1) (b := (sbL py vy y0 y1).2) (A := 8388608) (B := 67108864) (by omega) (by omega)
      have hpy7 := mul_bd (a := (sbL py vy y0 y1).1) (b := (sbH py vy y0 y1).2) (A := 8388608) (B := 67108864) (by omega) (by omega)
      have hpy13 := mul_bd (a := (sbH py vy y0 y1).1) (b := (sbL py vy y0 y1).2) (A := 8388608) (B := 67108864) (by omega) (by omega)
      have hpy15 := mul_bd (a := (sbH py vy y0 y1).1) (b := (sbH py vy y0 y1).2) (A := 8388608) (B := 67108864) (by omega) (by omega)
      try have hpq1 := mul_bd (a := (sbL px vx x0 x1).1) (b := (sbL py vy y0 y1).2) (A := 8388608) (B := 67108864) (by omega) (by omega)
      try have hpq3 := mul_bd (a := (sbL px vx x0 x1).1) (b := (sbH py vy y0 y1).2) (A := 8388608) (B := 67108864) (by omega) (by omega)
      try have hpq4 := mul_bd (a := (sbL py vy y0 y1).1) (b := (sbL px vx x0 x1).2) (A := 8388608) (B := 67108864) (by omega) (by omega)
      try have hpq6 := mul_bd (a := (sbL py vy y0 y1).1) (b := (sbH px vx x0 x1).2) (A := 8388608) (B := 67108864) (by omega) (by omega)
      try have hpq9 := mul_bd (a := (sbH px vx x0 x1).1) (b := (sbL py vy y0 y1).2) (A := 8388608) (B := 67108864) (by omega) (by omega)
      try have hpq11 := mul_bd (a := (sbH px vx x0 x1).1) (b := (sbH py vy y0 y1).2) (A := 8388608) (B := 67108864) (by omega) (by omega)
      try have hpq12 := mul_bd (a := (sbH py vy y0 y1).1) (b := (sbL px vx x0 x1).2) (A := 8388608) (B := 67108864) (by omega) (by omega)
      try have hpq14 := mul_bd (a := (sbH py vy y0 y1).1) (b := (sbH px vx x0 x1).2) (A := 8388608) (B := 67108864) (by omega) (by omega)
      refine call_v (by kernel_rfl) (axis_n _ py vy y0 y1 (by omega) (by omega) (by omega) (by omega) (by assumption)) ?_
      have g'2 := (jn @h2 (jn @h2d g'1))
      refine runTf g'2 ?_
      refine hn3 _ _ ?_
      refine AW_seqQ fun Q4 hn4 hr4 he4 => ?_
      have hQ4 := fun F H' h => hr4 F H' (hQ F H' h)
      refine AW_fin true try_mixed (by kernel_rfl) ?_
      refine runTf g'2 ?_
      refine gd_split (fun h3 => ?_) (fun h3 => ?_)
      · have h3d := bsT h3
        have haX := h3d
        have g'3 := (jn @h3 (jn @h3d g'2))
        refine runTf g'3 ?_
        refine hn4 _ _ ?_
        refine AW_seqQ fun Q5 hn5 hr5 he5 => ?_
        have hQ5 := fun F H' h => hr5 F H' (hQ F H' h)
        refine AW_fin true try_mixed (by kernel_rfl) ?_
        refine runTf g'3 ?_
        refine hn5 _ _ ?_
        refine AW_seqQ fun Q6 hn6 hr6 he6 => ?_
        have hQ6 := fun F H' h => hr6 F H' (hQ F H' h)
        refine AW_fin true try_mixed (by kernel_rfl) ?_
        refine runTf g'3 ?_
        refine hn6 _ _ ?_
        refine AW_seqQ fun Q7 hn7 hr7 he7 => ?_
        have hQ7 := fun F H' h => hr7 F H' (hQ F H' h)
        refine AW_seqQ fun Q8 hn8 hr8 he8 => ?_
        have hQ8 := fun F H' h => hr8 F H' (hQ7 F H' h)
        refine AW_fin true try_mixed (by kernel_rfl) ?_
        have q4 := decide_eq_false (Int.lt_irrefl (((sbL py vy y0 y1).1) * ((sbL py vy y0 y1).2)))
        have g'4 := (jn @q4 g'3)
        refine runTf g'4 ?_
        refine hn8 _ _ ?_
        refine AW_cond false (by rfl) (fun h => by cases h) (fun h => ?_)
        refine AW_fin true try_mixed (by kernel_rfl) ?_
        refine runTf g'4 ?_
        refine hn7 _ _ ?_
        refine AW_seqQ fun Q9 hn9 hr9 he9 => ?_
        have hQ9 := fun F H' h => hr9 F H' (hQ F H' h)
        refine AW_seqQ fun Q10 hn10 hr10 he10 => ?_
        have hQ10 := fun F H' h => hr10 F H' (hQ9 F H' h)
        refine AW_fin true try_mixed (by kernel_rfl) ?_
        have q5 := decide_eq_false (Int.lt_irrefl (((sbH py vy y0 y1).1) * ((sbH py vy y0 y1).2)))
        have g'5 := (jn @q5 g'4)
        refine runTf g'5 ?_
        refine hn10 _ _ ?_
        refine AW_cond false (by rfl) (fun h => by cases h) (fun h => ?_)
        refine AW_fin true try_mixed (by kernel_rfl) ?_
        refine runTf g'5 ?_
        refine hn9 _ _ ?_
        refine AW_fin true try_mixed (by kernel_rfl) ?_
        refine runTf g'5 ?_
        refine cond_split (fun h6 => ?_) (fun h6 => ?_)
        · have h6d := bsT h6
          have g'6 := (jn @h6 (jn @h6d g'5))
          refine runTf g'6 ?_
          refine cond_split (fun h7 => ?_) (fun h7 => ?_)
          · have h7d := bsT h7
            have g'7 := (jn @h7 (jn @h7d g'6))
            refine runTf g'7 ?_
            exact hQ _ _ (end_plain (.inl rfl) hbel (x := .agg [.int .i64 0, .int .i64 0, .int .i64 0, .int .i64 0, .bool true, .bool false]) (resT Tryz.results310) rfl ⟨by first | (unfold tiV; rw [hfinE]; rfl) | (simp only [tiV, tmE, tmS, tmL, tmH, mxF, mnF, lo0, haX, haY, h1d, h2d, h3d, h6d, h7d, if_neg hnX, if_neg hnY, Int.lt_irrefl, ite_self, if_true, if_false, decide_true, decide_false, Bool.or_true, Bool.or_false, Bool.or_self, Bool.false_eq_true]; done) | (simp only [tiV, tmE, tmS, tmL, tmH, mxF, mnF, lo0, haX, haY, h1d, h2d, h3d, h6d, h7d, if_pos hX0, if_neg hnY, Int.lt_irrefl, ite_self, if_true, if_false, decide_true, decide_false, Bool.or_true, Bool.or_false, Bool.or_self, Bool.false_eq_true]; done) | (simp only [tiV, tmE, tmS, tmL, tmH, mxF, mnF, lo0, haX, haY, h1d, h2d, h3d, h6d, h7d, if_neg hnX, if_pos hY0, Int.lt_irrefl, ite_self, if_true, if_false, decide_true, decide_false, Bool.or_true, Bool.or_false, Bool.or_self, Bool.false_eq_true]; done) | skip, rfl⟩)
          · have h7d := bsT h7
            have g'8 := (jn @h7 (jn @h7d g'6))
            refine runTf g'8 ?_
            exact hQ _ _ (end_plain (.inl rfl) hbel (x := .agg [.int .i64 0, .int .i64 1, .int .i64 ((sbH py vy y0 y1).1), .int .i64 ((sbH py vy y0 y1).2), .bool false, .bool false]) (resT Tryz.results310) rfl ⟨by first | (unfold tiV; rw [hfinE]; rfl) | (simp only [tiV, tmE, tmS, tmL, tmH, mxF, mnF, lo0, haX, haY, h1d, h2d, h3d, h6d, h7d, if_neg hnX, if_neg hnY, Int.lt_irrefl, ite_self, if_true, if_false, decide_true, decide_false, Bool.or_true, Bool.or_false, Bool.or_self, Bool.false_eq_true]; done) | (simp only [tiV, tmE, tmS, tmL, tmH, mxF, mnF, lo0, haX, haY, h1d, h2d, h3d, h6d, h7d, if_pos hX0, if_neg hnY, Int.lt_irrefl, ite_self, if_true, if_false, decide_true, decide_false, Bool.or_true, Bool.or_false, Bool.or_self, Bool.false_eq_true]; done) | (simp only [tiV, tmE, tmS, tmL, tmH, mxF, mnF, lo0, haX, haY, h1d, h2d, h3d, h6d, h7d, if_neg hnX, if_pos hY0, Int.lt_irrefl, ite_self, if_true, if_false, decide_true, decide_false, Bool.or_true, Bool.or_false, Bool.or_self, Bool.false_eq_true]; done) | skip, rfl⟩)
        · have h6d := bsT h6
          have g'9 := (jn @h6 (jn @h6d g'5))
          refine runTf g'9 ?_
          refine cond_split (fun h8 => ?_) (fun h8 => ?_)
          · have h8d := bsT h8
            have g'10 := (jn @h8 (jn @h8d g'9))
            refine runTf g'10 ?_
            exact hQ _ _ (end_plain (.inl rfl) hbel (x := .agg [.int .i64 0, .int .i64 0, .int .i64 0, .int .i64 0, .bool true, .bool false]) (resT Tryz.results310) rfl ⟨by first | (unfold tiV; rw [hfinE]; rfl) | (simp only [tiV, tmE, tmS, tmL, tmH, mxF, mnF, lo0, haX, haY, h1d, h2d, h3d, h6d, h8d, if_neg hnX, if_neg hnY, Int.lt_irrefl, ite_self, if_true, if_false, decide_true, decide_false, Bool.or_true, Bool.or_false, Bool.or_self, Bool.false_eq_true]; done) | (simp only [tiV, tmE, tmS, tmL, tmH, mxF, mnF, lo0, haX, haY, h1d, h2d, h3d, h6d, h8d, if_pos hX0, if_neg hnY, Int.lt_irrefl, ite_self, if_true, if_false, decide_true, decide_false, Bool.or_true, Bool.or_false, Bool.or_self, Bool.false_eq_true]; done) | (simp only [tiV, tmE, tmS, tmL, tmH, mxF, mnF, lo0, haX, haY, h1d, h2d, h3d, h6d, h8d, if_neg hnX, if_pos hY0, Int.lt_irrefl, ite_self, if_true, if_false, decide_true, decide_false, Bool.or_true, Bool.or_false, Bool.or_self, Bool.false_eq_true]; done) | skip, rfl⟩)
          · have h8d := bsT h8
            have g'11 := (jn @h8 (jn @h8d g'9))
            refine runTf g'11 ?_
            exact hQ _ _ (end_plain (.inl rfl) hbel (x := .agg [.int .i64 ((sbL py vy y0 y1).1), .int .i64 ((sbL py vy y0 y1).2), .int .i64 ((sbH py vy y0 y1).1), .int .i64 ((sbH py vy y0 y1).2), .bool false, .bool false]) (resT Tryz.results310) rfl ⟨by first | (unfold tiV; rw [hfinE]; rfl) | (simp only [tiV, tmE, tmS, tmL, tmH, mxF, mnF, lo0, haX, haY, h1d, h2d, h3d, h6d, h8d, if_neg hnX, if_neg hnY, Int.lt_irrefl, ite_self, if_true, if_false, decide_true, decide_false, Bool.or_true, Bool.or_false, Bool.or_self, Bool.false_eq_true]; done) | (simp only [tiV, tmE, tmS, tmL, tmH, mxF, mnF, lo0, haX, haY, h1d, h2d, h3d, h6d, h8d, if_pos hX0, if_neg hnY, Int.lt_irrefl, ite_self, if_true, if_false, decide_true, decide_false, Bool.or_true, Bool.or_false, Bool.or_self, Bool.false_eq_true]; done) | (simp only [tiV, tmE, tmS, tmL, tmH, mxF, mnF, lo0, haX, haY, h1d, h2d, h3d, h6d, h8d, if_neg hnX, if_pos hY0, Int.lt_irrefl, ite_self, if_true, if_false, decide_true, decide_false, Bool.or_true, Bool.or_false, Bool.or_self, Bool.false_eq_true]; done) | skip, rfl⟩)
      · have h3d := bsT h3
        have hfinE : tmE px py vx vy x0 y0 x1 y1 = true := by unfold tmE; rw [h3d]; rfl
        have g'12 := (jn @h3 (jn @h3d g'2))
        refine runTf g'12 ?_
        exact hQ4 _ _ (end_plain (.inl rfl) hbel (x := .agg [.int .i64 0, .int .i64 0, .int .i64 0, .int .i64 0, .bool true, .bool false]) (resT Tryz.results310) rfl ⟨by first | (unfold tiV; rw [hfinE]; rfl) | (simp only [tiV, tmE, tmS, tmL, tmH, mxF, mnF, lo0, haX, haY, h1d, h2d, h3d, hfinE, if_neg hnX, if_neg hnY, Int.lt_irrefl, ite_self, if_true, if_false, decide_true, decide_false, Bool.or_true, Bool.or_false, Bool.or_self, Bool.false_eq_true]; done) | (simp only [tiV, tmE, tmS, tmL, tmH, mxF, mnF, lo0, haX, haY, h1d, h2d, h3d, hfinE, if_pos hX0, if_neg hnY, Int.lt_irrefl, ite_self, if_true, if_false, decide_true, decide_false, Bool.or_true, Bool.or_false, Bool.or_self, Bool.false_eq_true]; done) | (simp only [tiV, tmE, tmS, tmL, tmH, mxF, mnF, lo0, haX, haY, h1d, h2d, h3d, hfinE, if_neg hnX, if_pos hY0, Int.lt_irrefl, ite_self, if_true, if_false, decide_true, decide_false, Bool.or_true, Bool.or_false, Bool.or_self, Bool.false_eq_true]; done) | skip, rfl⟩)
  · have h1d := h1
    have hnX : ¬ vx = 0 := by simpa using h1d
    have haX := (axE_n (p := px) (a := x0) (b := x1) hnX).1
    have hbX := sb_bd (p := px) (d := vx) (a := x0) (b := x1) (by omega) (by omega) (by omega) (by omega) hnX
    obtain ⟨⟨hbX1, hbX2, hbX3⟩, hbX4, hbX5, hbX6⟩ := hbX
    have hpx0 := mul_bd (a := (sbL px vx x0 x1).1) (b := (sbL px vx x0 x1).2) (A := 8388608) (B := 67108864) (by omega) (by omega)
    have hpx2 := mul_bd (a := (sbL px vx x0 x1).1) (b := (sbH px vx x0 x1).2) (A := 8388608) (B := 67108864) (by omega) (by omega)
    have hpx8 := mul_bd (a := (sbH px vx x0 x1).1) (b := (sbL px vx x0 x1).2) (A := 8388608) (B := 67108864) (by omega) (by omega)
    have hpx10 := mul_bd (a := (sbH px vx x0 x1).1) (b := (sbH px vx x0 x1).2) (A := 8388608) (B := 67108864) (by omega) (by omega)
    refine call_v (by kernel_rfl) (axis_n _ px vx x0 x1 (by omega) (by omega) (by omega) (by omega) (by assumption)) ?_
    have g'13 := (jn @h1 @h1d)
    refine runTf g'13 ?_
    refine hn2 _ _ ?_
    refine AW_seqQ fun Q11 hn11 hr11 he11 => ?_
    have hQ11 := fun F H' h => hr11 F H' (hQ F H' h)
    refine AW_fin true try_mixed (by kernel_rfl) ?_
    refine runTf g'13 ?_
    rcases Bool.eq_false_or_eq_true (decide (vy = 0)) with h9 | h9
    · have h9d := h9
      have hY0 : vy = 0 := by simpa using h9d
      refine call_v (by kernel_rfl) (axis_z _ py vy y0 y1 (by omega) (by omega) (by omega) (by omega) (by assumption)) ?_
      have g'14 := (jn @h9 (jn @h9d g'13))
      refine runTf g'14 ?_
      refine hn11 _ _ ?_
      refine AW_seqQ fun Q12 hn12 hr12 he12 => ?_
      have hQ12 := fun F H' h => hr12 F H' (hQ F H' h)
      refine AW_fin true try_mixed (by kernel_rfl) ?_
      refine runTf g'14 ?_
      refine cond_split (fun h10 => ?_) (fun h10 => ?_)
      · have h10d := bsT h10
        have hfinE : tmE px py vx vy x0 y0 x1 y1 = true := by unfold tmE; rw [h10d]; simp
        have g'15 := (jn @h10 (jn @h10d g'14))
        refine runTf g'15 ?_
        exact hQ12 _ _ (end_plain (.inl rfl) hbel (x := .agg [.int .i64 0, .int .i64 0, .int .i64 0, .int .i64 0, .bool true, .bool false]) (resT Tryz.results310) rfl ⟨by first | (unfold tiV; rw [hfinE]; rfl) | (simp only [tiV, tmE, tmS, tmL, tmH, mxF, mnF, lo0, haX, haY, h1d, h9d, h10d, hfinE, if_neg hnX, if_neg hnY, Int.lt_irrefl, ite_self, if_true, if_false, decide_true, decide_false, Bool.or_true, Bool.or_false, Bool.or_self, Bool.false_eq_true]; done) | (simp only [tiV, tmE, tmS, tmL, tmH, mxF, mnF, lo0, haX, haY, h1d, h9d, h10d, hfinE, if_pos hX0, if_neg hnY, Int.lt_irrefl, ite_self, if_true, if_false, decide_true, decide_false, Bool.or_true, Bool.or_false, Bool.or_self, Bool.false_eq_true]; done) | (simp only [tiV, tmE, tmS, tmL, tmH, mxF, mnF, lo0, haX, haY, h1d, h9d, h10d, hfinE, if_neg hnX, if_pos hY0, Int.lt_irrefl, ite_self, if_true, if_false, decide_true, decide_false, Bool.or_true, Bool.or_false, Bool.or_self, Bool.false_eq_true]; done) | skip, rfl⟩)
      · have h10d := bsT h10
        have haY := h10d
        have g'16 := (jn @h10 (jn @h10d g'14))
        refine runTf g'16 ?_
        refine hn12 _ _ ?_
        refine AW_seqQ fun Q13 hn13 hr13 he13 => ?_
        have hQ13 := fun F H' h => hr13 F H' (hQ F H' h)
        refine AW_fin true try_mixed (by kernel_rfl) ?_
        refine runTf g'16 ?_
        refine hn13 _ _ ?_
        refine AW_seqQ fun Q14 hn14 hr14 he14 => ?_
        have hQ14 := fun F H' h => hr14 F H' (hQ F H' h)
        refine AW_fin true try_mixed (by kernel_rfl) ?_
        refine runTf g'16 ?_
        refine hn14 _ _ ?_
        refine AW_seqQ fun Q15 hn15 hr15 he15 => ?_
        have hQ15 := fun F H' h => hr15 F H' (hQ F H' h)
        refine AW_seqQ fun Q16 hn16 hr16 he16 => ?_
        have hQ16 := fun F H' h => hr16 F H' (hQ15 F H' h)
        refine AW_fin true try_mixed (by kernel_rfl) ?_
        have q11 := decide_eq_false (Int.lt_irrefl (((sbL px vx x0 x1).1) * ((sbL px vx x0 x1).2)))
        have g'17 := (jn @q11 g'16)
        refine runTf g'17 ?_
        refine hn16 _ _ ?_
        refine AW_cond false (by rfl) (fun h => by cases h) (fun h => ?_)
        refine AW_fin true try_mixed (by kernel_rfl) ?_
        refine runTf g'17 ?_
        refine hn15 _ _ ?_
        refine AW_seqQ fun Q17 hn17 hr17 he17 => ?_
        have hQ17 := fun F H' h => hr17 F H' (hQ F H' h)
        refine AW_seqQ fun Q18 hn18 hr18 he18 => ?_
        have hQ18 := fun F H' h => hr18 F H' (hQ17 F H' h)
        refine AW_fin true try_mixed (by kernel_rfl) ?_
        have q12 := decide_eq_false (Int.lt_irrefl (((sbH px vx x0 x1).1) * ((sbH px vx x0 x1).2)))
        have g'18 := (jn @q12 g'17)
        refine runTf g'18 ?_
        refine hn18 _ _ ?_
        refine AW_cond false (by rfl) (fun h => by cases h) (fun h => ?_)
        refine AW_fin true try_mixed (by kernel_rfl) ?_
        refine runTf g'18 ?_
        refine hn17 _ _ ?_
        refine AW_fin true try_mixed (by kernel_rfl) ?_
        refine runTf g'18 ?_
        refine cond_split (fun h13 => ?_) (fun h13 => ?_)
        · have h13d := bsT h13
          have g'19 := (jn @h13 (jn @h13d g'18))
          refine runTf g'19 ?_
          refine cond_split (fun h14 => ?_) (fun h14 => ?_)
          · have h14d := bsT h14
            have g'20 := (jn @h14 (jn @h14d g'19))
            refine runTf g'20 ?_
            exact hQ _ _ (end_plain (.inl rfl) hbel (x := .agg [.int .i64 0, .int .i64 0, .int .i64 0, .int .i64 0, .bool true, .bool false]) (resT Tryz.results310) rfl ⟨by first | (unfold tiV; rw [hfinE]; rfl) | (simp only [tiV, tmE, tmS, tmL, tmH, mxF, mnF, lo0, haX, haY, h1d, h9d, h10d, h13d, h14d, if_neg hnX, if_neg hnY, Int.lt_irrefl, ite_self, if_true, if_false, decide_true, decide_false, Bool.or_true, Bool.or_false, Bool.or_self, Bool.false_eq_true]; done) | (simp only [tiV, tmE, tmS, tmL, tmH, mxF, mnF, lo0, haX, haY, h1d, h9d, h10d, h13d, h14d, if_pos hX0, if_neg hnY, Int.lt_irrefl, ite_self, if_true, if_false, decide_true, decide_false, Bool.or_true, Bool.or_false, Bool.or_self, Bool.false_eq_true]; done) | (simp only [tiV, tmE, tmS, tmL, tmH, mxF, mnF, lo0, haX, haY, h1d, h9d, h10d, h13d, h14d, if_neg hnX, if_pos hY0, Int.lt_irrefl, ite_self, if_true, if_false, decide_true, decide_false, Bool.or_true, Bool.or_false, Bool.or_self, Bool.false_eq_true]; done) | skip, rfl⟩)
          · have h14d := bsT h14
            have g'21 := (jn @h14 (jn @h14d g'19))
            refine runTf g'21 ?_
            exact hQ _ _ (end_plain (.inl rfl) hbel (x := .agg [.int .i64 0, .int .i64 1, .int .i64 ((sbH px vx x0 x1).1), .int .i64 ((sbH px vx x0 x1).2), .bool false, .bool false]) (resT Tryz.results310) rfl ⟨by first | (unfold tiV; rw [hfinE]; rfl) | (simp only [tiV, tmE, tmS, tmL, tmH, mxF, mnF, lo0, haX, haY, h1d, h9d, h10d, h13d, h14d, if_neg hnX, if_neg hnY, Int.lt_irrefl, ite_self, if_true, if_false, decide_true, decide_false, Bool.or_true, Bool.or_false, Bool.or_self, Bool.false_eq_true]; done) | (simp only [tiV, tmE, tmS, tmL, tmH, mxF, mnF, lo0, haX, haY, h1d, h9d, h10d, h13d, h14d, if_pos hX0, if_neg hnY, Int.lt_irrefl, ite_self, if_true, if_false, decide_true, decide_false, Bool.or_true, Bool.or_false, Bool.or_self, Bool.false_eq_true]; done) | (simp only [tiV, tmE, tmS, tmL, tmH, mxF, mnF, lo0, haX, haY, h1d, h9d, h10d, h13d, h14d, if_neg hnX, if_pos hY0, Int.lt_irrefl, ite_self, if_true, if_false, decide_true, decide_false, Bool.or_true, Bool.or_false, Bool.or_self, Bool.false_eq_true]; done) | skip, rfl⟩)
        · have h13d := bsT h13
          have g'22 := (jn @h13 (jn @h13d g'18))
          refine runTf g'22 ?_
          refine cond_split (fun h15 => ?_) (fun h15 => ?_)
          · have h15d := bsT h15
            have g'23 := (jn @h15 (jn @h15d g'22))
            refine runTf g'23 ?_
            exact hQ _ _ (end_plain (.inl rfl) hbel (x := .agg [.int .i64 0, .int .i64 0, .int .i64 0, .int .i64 0, .bool true, .bool false]) (resT Tryz.results310) rfl ⟨by first | (unfold tiV; rw [hfinE]; rfl) | (simp only [tiV, tmE, tmS, tmL, tmH, mxF, mnF, lo0, haX, haY, h1d, h9d, h10d, h13d, h15d, if_neg hnX, if_neg hnY, Int.lt_irrefl, ite_self, if_true, if_false, decide_true, decide_false, Bool.or_true, Bool.or_false, Bool.or_self, Bool.false_eq_true]; done) | (simp only [tiV, tmE, tmS, tmL, tmH, mxF, mnF, lo0, haX, haY, h1d, h9d, h10d, h13d, h15d, if_pos hX0, if_neg hnY, Int.lt_irrefl, ite_self, if_true, if_false, decide_true, decide_false, Bool.or_true, Bool.or_false, Bool.or_self, Bool.false_eq_true]; done) | (simp only [tiV, tmE, tmS, tmL, tmH, mxF, mnF, lo0, haX, haY, h1d, h9d, h10d, h13d, h15d, if_neg hnX, if_pos hY0, Int.lt_irrefl, ite_self, if_true, if_false, decide_true, decide_false, Bool.or_true, Bool.or_false, Bool.or_self, Bool.false_eq_true]; done) | skip, rfl⟩)
          · have h15d := bsT h15
            have g'24 := (jn @h15 (jn @h15d g'22))
            refine runTf g'24 ?_
            exact hQ _ _ (end_plain (.inl rfl) hbel (x := .agg [.int .i64 ((sbL px vx x0 x1).1), .int .i64 ((sbL px vx x0 x1).2), .int .i64 ((sbH px vx x0 x1).1), .int .i64 ((sbH px vx x0 x1).2), .bool false, .bool false]) (resT Tryz.results310) rfl ⟨by first | (unfold tiV; rw [hfinE]; rfl) | (simp only [tiV, tmE, tmS, tmL, tmH, mxF, mnF, lo0, haX, haY, h1d, h9d, h10d, h13d, h15d, if_neg hnX, if_neg hnY, Int.lt_irrefl, ite_self, if_true, if_false, decide_true, decide_false, Bool.or_true, Bool.or_false, Bool.or_self, Bool.false_eq_true]; done) | (simp only [tiV, tmE, tmS, tmL, tmH, mxF, mnF, lo0, haX, haY, h1d, h9d, h10d, h13d, h15d, if_pos hX0, if_neg hnY, Int.lt_irrefl, ite_self, if_true, if_false, decide_true, decide_false, Bool.or_true, Bool.or_false, Bool.or_self, Bool.false_eq_true]; done) | (simp only [tiV, tmE, tmS, tmL, tmH, mxF, mnF, lo0, haX, haY, h1d, h9d, h10d, h13d, h15d, if_neg hnX, if_pos hY0, Int.lt_irrefl, ite_self, if_true, if_false, decide_true, decide_false, Bool.or_true, Bool.or_false, Bool.or_self, Bool.false_eq_true]; done) | skip, rfl⟩)
    · have h9d := h9
      have hnY : ¬ vy = 0 := by simpa using h9d
      have haY := (axE_n (p := py) (a := y0) (b := y1) hnY).1
      have hbY := sb_bd (p := py) (d := vy) (a := y0) (b := y1) (by omega) (by omega) (by omega) (by omega) hnY
      obtain ⟨⟨hbY1, hbY2, hbY3⟩, hbY4, hbY5, hbY6⟩ := hbY
      have hpy5 := mul_bd (a := (sbL py vy y0 y1).1) (b := (sbL py vy y0 y1).2) (A := 8388608) (B := 67108864) (by omega) (by omega)
      have hpy7 := mul_bd (a := (sbL py vy y0 y1).1) (b := (sbH py vy y0 y1).2) (A := 8388608) (B := 67108864) (by omega) (by omega)
      have hpy13 := mul_bd (a := (sbH py vy y0 y1).1) (b := (sbL py vy y0 y1).2) (A := 8388608) (B := 67108864) (by omega) (by omega)
      have hpy15 := mul_bd (a := (sbH py vy y0 y1).1) (b := (sbH py vy y0 y1).2) (A := 8388608) (B := 67108864) (by omega) (by omega)
      try have hpq1 := mul_bd (a := (sbL px vx x0 x1).1) (b := (sbL py vy y0 y1).2) (A := 8388608) (B := 67108864) (by omega) (by omega)
      try have hpq3 := mul_bd (a := (sbL px vx x0 x1).1) (b := (sbH py vy y0 y1).2) (A := 8388608) (B := 67108864) (by omega) (by omega)
      try have hpq4 := mul_bd (a := (sbL py vy y0 y1).1) (b := (sbL px vx x0 x1).2) (A := 8388608) (B := 67108864) (by omega) (by omega)
      try have hpq6 := mul_bd (a := (sbL py vy y0 y1).1) (b := (sbH px vx x0 x1).2) (A := 8388608) (B := 67108864) (by omega) (by omega)
      try have hpq9 := mul_bd (a := (sbH px vx x0 x1).1) (b := (sbL py vy y0 y1).2) (A := 8388608) (B := 67108864) (by omega) (by omega)
      try have hpq11 := mul_bd (a := (sbH px vx x0 x1).1) (b := (sbH py vy y0 y1).2) (A := 8388608) (B := 67108864) (by omega) (by omega)
      try have hpq12 := mul_bd (a := (sbH py vy y0 y1).1) (b := (sbL px vx x0 x1).2) (A := 8388608) (B := 67108864) (by omega) (by omega)
      try have hpq14 := mul_bd (a := (sbH py vy y0 y1).1) (b := (sbH px vx x0 x1).2) (A := 8388608) (B := 67108864) (by omega) (by omega)
      refine call_v (by kernel_rfl) (axis_n _ py vy y0 y1 (by omega) (by omega) (by omega) (by omega) (by assumption)) ?_
      have g'25 := (jn @h9 (jn @h9d g'13))
      refine runTf g'25 ?_
      refine hn11 _ _ ?_
      refine AW_seqQ fun Q19 hn19 hr19 he19 => ?_
      have hQ19 := fun F H' h => hr19 F H' (hQ F H' h)
      refine AW_fin true try_mixed (by kernel_rfl) ?_
      refine runTf g'25 ?_
      refine hn19 _ _ ?_
      refine AW_seqQ fun Q20 hn20 hr20 he20 => ?_
      have hQ20 := fun F H' h => hr20 F H' (hQ F H' h)
      refine AW_fin true try_mixed (by kernel_rfl) ?_
      refine runTf g'25 ?_
      refine hn20 _ _ ?_
      refine AW_seqQ fun Q21 hn21 hr21 he21 => ?_
      have hQ21 := fun F H' h => hr21 F H' (hQ F H' h)
      refine AW_fin true try_mixed (by kernel_rfl) ?_
      refine runTf g'25 ?_
      refine hn21 _ _ ?_
      refine AW_seqQ fun Q22 hn22 hr22 he22 => ?_
      have hQ22 := fun F H' h => hr22 F H' (hQ F H' h)
      refine AW_seqQ fun Q23 hn23 hr23 he23 => ?_
      have hQ23 := fun F H' h => hr23 F H' (hQ22 F H' h)
      refine AW_fin true try_mixed (by kernel_rfl) ?_
      refine runTf g'25 ?_
      refine hn23 _ _ ?_
      refine AW_cond (decide ((((sbL px vx x0 x1).1) * ((sbL py vy y0 y1).2)) < (((sbL py vy y0 y1).1) * ((sbL px vx x0 x1).2)))) (by rfl) (fun h16 => ?_) (fun h16 => ?_)
      · have h16d := bsT h16
        refine AW_special1 true try_mixed [[0, 1, 2, 3, 4, 5, 6, 7], [0, 1, 2, 4, 5, 3, 6, 7]] (by kernel_rfl) (fun F2 H2 => F2 = [(6, .ptr (some (H.length, 0))), (7, .ptr (some (H.length + 1, 0))), (8, .ptr (some (H.length + 2, 0)))] ∧ H2 = H ++ [.cells true 0 [.int .i64 0, .int .i64 0, .int .i64 0, .int .i64 0, .bool false, .bool false], .cells true 0 [.int .i64 ((sbL py vy y0 y1).1), .int .i64 ((sbL py vy y0 y1).2), .int .i64 ((sbH px vx x0 x1).1), .int .i64 ((sbH px vx x0 x1).2), .bool false, .bool false], .cells true 0 [.int .i64 ((sbL py vy y0 y1).1), .int .i64 ((sbL py vy y0 y1).2), .int .i64 ((sbH py vy y0 y1).1), .int .i64 ((sbH py vy y0 y1).2), .bool false, .bool false]]) ?_ ?_
        · refine reps_cons ?_ (reps_cons ?_ (reps_nil)) <;> intro J hJ
          · skip
            have g'26 := (jn @h16 (jn @h16d g'25))
            refine runDf g'26 ?_
            refine inv_of (hJ _ _ ⟨_, _, _, ⟨rfl, rfl⟩, Abs.byG hbel [] rfl [3, 4, 5] (by decide) ?_⟩)
            exact absW
          · skip
            have g'27 := (jn @h16 (jn @h16d g'25))
            refine runDf g'27 ?_
            refine inv_of (hJ _ _ ⟨_, _, _, ⟨rfl, rfl⟩, Abs.byG hbel [] rfl [3, 4, 5] (by decide) ?_⟩)
            exact absW
        rintro F2 H2 ⟨rfl, rfl⟩
        refine hn22 _ _ ?_
        refine AW_seqQ fun Q24 hn24 hr24 he24 => ?_
        have hQ24 := fun F H' h => hr24 F H' (hQ F H' h)
        refine AW_seqQ fun Q25 hn25 hr25 he25 => ?_
        have hQ25 := fun F H' h => hr25 F H' (hQ24 F H' h)
        refine AW_fin true try_mixed (by kernel_rfl) ?_
        have g'28 := (jn @h16 (jn @h16d g'25))
        refine runTf g'28 ?_
        refine hn25 _ _ ?_
        refine AW_cond (decide ((((sbH py vy y0 y1).1) * ((sbH px vx x0 x1).2)) < (((sbH px vx x0 x1).1) * ((sbH py vy y0 y1).2)))) (by rfl) (fun h17 => ?_) (fun h17 => ?_)
        · have h17d := bsT h17
          refine AW_special1 true try_mixed [[0, 1, 2, 3, 4, 5, 6, 7], [0, 1, 2, 4, 5, 3, 6, 7]] (by kernel_rfl) (fun F2 H2 => F2 = [(6, .ptr (some (H.length, 0))), (7, .ptr (some (H.length + 1, 0)))] ∧ H2 = H ++ [.cells true 0 [.int .i64 0, .int .i64 0, .int .i64 0, .int .i64 0, .bool false, .bool false], .cells true 0 [.int .i64 ((sbL py vy y0 y1).1), .int .i64 ((sbL py vy y0 y1).2), .int .i64 ((sbH py vy y0 y1).1), .int .i64 ((sbH py vy y0 y1).2), .bool false, .bool false]]) ?_ ?_
          · refine reps_cons ?_ (reps_cons ?_ (reps_nil)) <;> intro J hJ
            · skip
              have g'29 := (jn @h17 (jn @h17d g'28))
              refine runDf g'29 ?_
              refine inv_of (hJ _ _ ⟨_, _, _, ⟨rfl, rfl⟩, Abs.byG hbel [] rfl [0, 1] (by decide) ?_⟩)
              exact absW
            · skip
              have g'30 := (jn @h17 (jn @h17d g'28))
              refine runDf g'30 ?_
              refine inv_of (hJ _ _ ⟨_, _, _, ⟨rfl, rfl⟩, Abs.byG hbel [] rfl [0, 1] (by decide) ?_⟩)
              exact absW
          rintro F2 H2 ⟨rfl, rfl⟩
          refine hn24 _ _ ?_
          refine AW_fin true try_mixed (by kernel_rfl) ?_
          have g'31 := (jn @h17 (jn @h17d g'28))
          refine runTf g'31 ?_
          refine cond_split (fun h18 => ?_) (fun h18 => ?_)
          · have h18d := bsT h18
            have g'32 := (jn @h18 (jn @h18d g'31))
            refine runTf g'32 ?_
            refine cond_split (fun h19 => ?_) (fun h19 => ?_)
            · have h19d := bsT h19
              have g'33 := (jn @h19 (jn @h19d g'32))
              refine runTf g'33 ?_
              exact hQ _ _ (end_plain (.inl rfl) hbel (x := .agg [.int .i64 0, .int .i64 0, .int .i64 0, .int .i64 0, .bool true, .bool false]) (resT Tryz.results310) rfl ⟨by first | (unfold tiV; rw [hfinE]; rfl) | (simp only [tiV, tmE, tmS, tmL, tmH, mxF, mnF, lo0, haX, haY, h1d, h9d, h16d, h17d, h18d, h19d, if_neg hnX, if_neg hnY, Int.lt_irrefl, ite_self, if_true, if_false, decide_true, decide_false, Bool.or_true, Bool.or_false, Bool.or_self, Bool.false_eq_true]; done) | (simp only [tiV, tmE, tmS, tmL, tmH, mxF, mnF, lo0, haX, haY, h1d, h9d, h16d, h17d, h18d, h19d, if_pos hX0, if_neg hnY, Int.lt_irrefl, ite_self, if_true, if_false, decide_true, decide_false, Bool.or_true, Bool.or_false, Bool.or_self, Bool.false_eq_true]; done) | (simp only [tiV, tmE, tmS, tmL, tmH, mxF, mnF, lo0, haX, haY, h1d, h9d, h16d, h17d, h18d, h19d, if_neg hnX, if_pos hY0, Int.lt_irrefl, ite_self, if_true, if_false, decide_true, decide_false, Bool.or_true, Bool.or_false, Bool.or_self, Bool.false_eq_true]; done) | skip, rfl⟩)
            · have h19d := bsT h19
              have g'34 := (jn @h19 (jn @h19d g'32))
              refine runTf g'34 ?_
              exact hQ _ _ (end_plain (.inl rfl) hbel (x := .agg [.int .i64 0, .int .i64 1, .int .i64 ((sbH py vy y0 y1).1), .int .i64 ((sbH py vy y0 y1).2), .bool false, .bool false]) (resT Tryz.results310) rfl ⟨by first | (unfold tiV; rw [hfinE]; rfl) | (simp only [tiV, tmE, tmS, tmL, tmH, mxF, mnF, lo0, haX, haY, h1d, h9d, h16d, h17d, h18d, h19d, if_neg hnX, if_neg hnY, Int.lt_irrefl, ite_self, if_true, if_false, decide_true, decide_false, Bool.or_true, Bool.or_false, Bool.or_self, Bool.false_eq_true]; done) | (simp only [tiV, tmE, tmS, tmL, tmH, mxF, mnF, lo0, haX, haY, h1d, h9d, h16d, h17d, h18d, h19d, if_pos hX0, if_neg hnY, Int.lt_irrefl, ite_self, if_true, if_false, decide_true, decide_false, Bool.or_true, Bool.or_false, Bool.or_self, Bool.false_eq_true]; done) | (simp only [tiV, tmE, tmS, tmL, tmH, mxF, mnF, lo0, haX, haY, h1d, h9d, h16d, h17d, h18d, h19d, if_neg hnX, if_pos hY0, Int.lt_irrefl, ite_self, if_true, if_false, decide_true, decide_false, Bool.or_true, Bool.or_false, Bool.or_self, Bool.false_eq_true]; done) | skip, rfl⟩)
          · have h18d := bsT h18
            have g'35 := (jn @h18 (jn @h18d g'31))
            refine runTf g'35 ?_
            refine cond_split (fun h20 => ?_) (fun h20 => ?_)
            · have h20d := bsT h20
              have g'36 := (jn @h20 (jn @h20d g'35))
              refine runTf g'36 ?_
              exact hQ _ _ (end_plain (.inl rfl) hbel (x := .agg [.int .i64 0, .int .i64 0, .int .i64 0, .int .i64 0, .bool true, .bool false]) (resT Tryz.results310) rfl ⟨by first | (unfold tiV; rw [hfinE]; rfl) | (simp only [tiV, tmE, tmS, tmL, tmH, mxF, mnF, lo0, haX, haY, h1d, h9d, h16d, h17d, h18d, h20d, if_neg hnX, if_neg hnY, Int.lt_irrefl, ite_self, if_true, if_false, decide_true, decide_false, Bool.or_true, Bool.or_false, Bool.or_self, Bool.false_eq_true]; done) | (simp only [tiV, tmE, tmS, tmL, tmH, mxF, mnF, lo0, haX, haY, h1d, h9d, h16d, h17d, h18d, h20d, if_pos hX0, if_neg hnY, Int.lt_irrefl, ite_self, if_true, if_false, decide_true, decide_false, Bool.or_true, Bool.or_false, Bool.or_self, Bool.false_eq_true]; done) | (simp only [tiV, tmE, tmS, tmL, tmH, mxF, mnF, lo0, haX, haY, h1d, h9d, h16d, h17d, h18d, h20d, if_neg hnX, if_pos hY0, Int.lt_irrefl, ite_self, if_true, if_false, decide_true, decide_false, Bool.or_true, Bool.or_false, Bool.or_self, Bool.false_eq_true]; done) | skip, rfl⟩)
            · have h20d := bsT h20
              have g'37 := (jn @h20 (jn @h20d g'35))
              refine runTf g'37 ?_
              exact hQ _ _ (end_plain (.inl rfl) hbel (x := .agg [.int .i64 ((sbL py vy y0 y1).1), .int .i64 ((sbL py vy y0 y1).2), .int .i64 ((sbH py vy y0 y1).1), .int .i64 ((sbH py vy y0 y1).2), .bool false, .bool false]) (resT Tryz.results310) rfl ⟨by first | (unfold tiV; rw [hfinE]; rfl) | (simp only [tiV, tmE, tmS, tmL, tmH, mxF, mnF, lo0, haX, haY, h1d, h9d, h16d, h17d, h18d, h20d, if_neg hnX, if_neg hnY, Int.lt_irrefl, ite_self, if_true, if_false, decide_true, decide_false, Bool.or_true, Bool.or_false, Bool.or_self, Bool.false_eq_true]; done) | (simp only [tiV, tmE, tmS, tmL, tmH, mxF, mnF, lo0, haX, haY, h1d, h9d, h16d, h17d, h18d, h20d, if_pos hX0, if_neg hnY, Int.lt_irrefl, ite_self, if_true, if_false, decide_true, decide_false, Bool.or_true, Bool.or_false, Bool.or_self, Bool.false_eq_true]; done) | (simp only [tiV, tmE, tmS, tmL, tmH, mxF, mnF, lo0, haX, haY, h1d, h9d, h16d, h17d, h18d, h20d, if_neg hnX, if_pos hY0, Int.lt_irrefl, ite_self, if_true, if_false, decide_true, decide_false, Bool.or_true, Bool.or_false, Bool.or_self, Bool.false_eq_true]; done) | skip, rfl⟩)
        · have h17d := bsT h17
          refine AW_fin true try_mixed (by kernel_rfl) ?_
          have g'38 := (jn @h17 (jn @h17d g'28))
          refine runTf g'38 ?_
          refine hn24 _ _ ?_
          refine AW_fin true try_mixed (by kernel_rfl) ?_
          refine runTf g'38 ?_
          refine cond_split (fun h21 => ?_) (fun h21 => ?_)
          · have h21d := bsT h21
            have g'39 := (jn @h21 (jn @h21d g'38))
            refine runTf g'39 ?_
            refine cond_split (fun h22 => ?_) (fun h22 => ?_)
            · have h22d := bsT h22
              have g'40 := (jn @h22 (jn @h22d g'39))
              refine runTf g'40 ?_
              exact hQ _ _ (end_plain (.inl rfl) hbel (x := .agg [.int .i64 0, .int .i64 0, .int .i64 0, .int .i64 0, .bool true, .bool false]) (resT Tryz.results310) rfl ⟨by first | (unfold tiV; rw [hfinE]; rfl) | (simp only [tiV, tmE, tmS, tmL, tmH, mxF, mnF, lo0, haX, haY, h1d, h9d, h16d, h17d, h21d, h22d, if_neg hnX, if_neg hnY, Int.lt_irrefl, ite_self, if_true, if_false, decide_true, decide_false, Bool.or_true, Bool.or_false, Bool.or_self, Bool.false_eq_true]; done) | (simp only [tiV, tmE, tmS, tmL, tmH, mxF, mnF, lo0, haX, haY, h1d, h9d, h16d, h17d, h21d, h22d, if_pos hX0, if_neg hnY, Int.lt_irrefl, ite_self, if_true, if_false, decide_true, decide_false, Bool.or_true, Bool.or_false, Bool.or_self, Bool.false_eq_true]; done) | (simp only [tiV, tmE, tmS, tmL, tmH, mxF, mnF, lo0, haX, haY, h1d, h9d, h16d, h17d, h21d, h22d, if_neg hnX, if_pos hY0, Int.lt_irrefl, ite_self, if_true, if_false, decide_true, decide_false, Bool.or_true, Bool.or_false, Bool.or_self, Bool.false_eq_true]; done) | skip, rfl⟩)
            · have h22d := bsT h22
              have g'41 := (jn @h22 (jn @h22d g'39))
              refine runTf g'41 ?_
              exact hQ _ _ (end_plain (.inl rfl) hbel (x := .agg [.int .i64 0, .int .i64 1, .int .i64 ((sbH px vx x0 x1).1), .int .i64 ((sbH px vx x0 x1).2), .bool false, .bool false]) (resT Tryz.results310) rfl ⟨by first | (unfold tiV; rw [hfinE]; rfl) | (simp only [tiV, tmE, tmS, tmL, tmH, mxF, mnF, lo0, haX, haY, h1d, h9d, h16d, h17d, h21d, h22d, if_neg hnX, if_neg hnY, Int.lt_irrefl, ite_self, if_true, if_false, decide_true, decide_false, Bool.or_true, Bool.or_false, Bool.or_self, Bool.false_eq_true]; done) | (simp only [tiV, tmE, tmS, tmL, tmH, mxF, mnF, lo0, haX, haY, h1d, h9d, h16d, h17d, h21d, h22d, if_pos hX0, if_neg hnY, Int.lt_irrefl, ite_self, if_true, if_false, decide_true, decide_false, Bool.or_true, Bool.or_false, Bool.or_self, Bool.false_eq_true]; done) | (simp only [tiV, tmE, tmS, tmL, tmH, mxF, mnF, lo0, haX, haY, h1d, h9d, h16d, h17d, h21d, h22d, if_neg hnX, if_pos hY0, Int.lt_irrefl, ite_self, if_true, if_false, decide_true, decide_false, Bool.or_true, Bool.or_false, Bool.or_self, Bool.false_eq_true]; done) | skip, rfl⟩)
          · have h21d := bsT h21
            have g'42 := (jn @h21 (jn @h21d g'38))
            refine runTf g'42 ?_
            refine cond_split (fun h23 => ?_) (fun h23 => ?_)
            · have h23d := bsT h23
              have g'43 := (jn @h23 (jn @h23d g'42))
              refine runTf g'43 ?_
              exact hQ _ _ (end_plain (.inl rfl) hbel (x := .agg [.int .i64 0, .int .i64 0, .int .i64 0, .int .i64 0, .bool true, .bool false]) (resT Tryz.results310) rfl ⟨by first | (unfold tiV; rw [hfinE]; rfl) | (simp only [tiV, tmE, tmS, tmL, tmH, mxF, mnF, lo0, haX, haY, h1d, h9d, h16d, h17d, h21d, h23d, if_neg hnX, if_neg hnY, Int.lt_irrefl, ite_self, if_true, if_false, decide_true, decide_false, Bool.or_true, Bool.or_false, Bool.or_self, Bool.false_eq_true]; done) | (simp only [tiV, tmE, tmS, tmL, tmH, mxF, mnF, lo0, haX, haY, h1d, h9d, h16d, h17d, h21d, h23d, if_pos hX0, if_neg hnY, Int.lt_irrefl, ite_self, if_true, if_false, decide_true, decide_false, Bool.or_true, Bool.or_false, Bool.or_self, Bool.false_eq_true]; done) | (simp only [tiV, tmE, tmS, tmL, tmH, mxF, mnF, lo0, haX, haY, h1d, h9d, h16d, h17d, h21d, h23d, if_neg hnX, if_pos hY0, Int.lt_irrefl, ite_self, if_true, if_false, decide_true, decide_false, Bool.or_true, Bool.or_false, Bool.or_self, Bool.false_eq_true]; done) | skip, rfl⟩)
            · have h23d := bsT h23
              have g'44 := (jn @h23 (jn @h23d g'42))
              refine runTf g'44 ?_
              exact hQ _ _ (end_plain (.inl rfl) hbel (x := .agg [.int .i64 ((sbL py vy y0 y1).1), .int .i64 ((sbL py vy y0 y1).2), .int .i64 ((sbH px vx x0 x1).1), .int .i64 ((sbH px vx x0 x1).2), .bool false, .bool false]) (resT Tryz.results310) rfl ⟨by first | (unfold tiV; rw [hfinE]; rfl) | (simp only [tiV, tmE, tmS, tmL, tmH, mxF, mnF, lo0, haX, haY, h1d, h9d, h16d, h17d, h21d, h23d, if_neg hnX, if_neg hnY, Int.lt_irrefl, ite_self, if_true, if_false, decide_true, decide_false, Bool.or_true, Bool.or_false, Bool.or_self, Bool.false_eq_true]; done) | (simp only [tiV, tmE, tmS, tmL, tmH, mxF, mnF, lo0, haX, haY, h1d, h9d, h16d, h17d, h21d, h23d, if_pos hX0, if_neg hnY, Int.lt_irrefl, ite_self, if_true, if_false, decide_true, decide_false, Bool.or_true, Bool.or_false, Bool.or_self, Bool.false_eq_true]; done) | (simp only [tiV, tmE, tmS, tmL, tmH, mxF, mnF, lo0, haX, haY, h1d, h9d, h16d, h17d, h21d, h23d, if_neg hnX, if_pos hY0, Int.lt_irrefl, ite_self, if_true, if_false, decide_true, decide_false, Bool.or_true, Bool.or_false, Bool.or_self, Bool.false_eq_true]; done) | skip, rfl⟩)
      · have h16d := bsT h16
        refine AW_fin true try_mixed (by kernel_rfl) ?_
        have g'45 := (jn @h16 (jn @h16d g'25))
        refine runTf g'45 ?_
        refine hn22 _ _ ?_
        refine AW_seqQ fun Q26 hn26 hr26 he26 => ?_
        have hQ26 := fun F H' h => hr26 F H' (hQ F H' h)
        refine AW_seqQ fun Q27 hn27 hr27 he27 => ?_
        have hQ27 := fun F H' h => hr27 F H' (hQ26 F H' h)
        refine AW_fin true try_mixed (by kernel_rfl) ?_
        refine runTf g'45 ?_
        refine hn27 _ _ ?_
        refine AW_cond (decide ((((sbH py vy y0 y1).1) * ((sbH px vx x0 x1).2)) < (((sbH px vx x0 x1).1) * ((sbH py vy y0 y1).2)))) (by rfl) (fun h24 => ?_) (fun h24 => ?_)
        · have h24d := bsT h24
          refine AW_special1 true try_mixed [[0, 1, 2, 3, 4, 5, 6, 7], [0, 1, 2, 4, 5, 3, 6, 7]] (by kernel_rfl) (fun F2 H2 => F2 = [(6, .ptr (some (H.length, 0))), (7, .ptr (some (H.length + 1, 0)))] ∧ H2 = H ++ [.cells true 0 [.int .i64 0, .int .i64 0, .int .i64 0, .int .i64 0, .bool false, .bool false], .cells true 0 [.int .i64 ((sbL px vx x0 x1).1), .int .i64 ((sbL px vx x0 x1).2), .int .i64 ((sbH py vy y0 y1).1), .int .i64 ((sbH py vy y0 y1).2), .bool false, .bool false]]) ?_ ?_
          · refine reps_cons ?_ (reps_cons ?_ (reps_nil)) <;> intro J hJ
            · skip
              have g'46 := (jn @h24 (jn @h24d g'45))
              refine runDf g'46 ?_
              refine inv_of (hJ _ _ ⟨_, _, _, ⟨rfl, rfl⟩, Abs.byG hbel [] rfl [3, 4] (by decide) ?_⟩)
              exact absW
            · skip
              have g'47 := (jn @h24 (jn @h24d g'45))
              refine runDf g'47 ?_
              refine inv_of (hJ _ _ ⟨_, _, _, ⟨rfl, rfl⟩, Abs.byG hbel [] rfl [3, 4] (by decide) ?_⟩)
              exact absW
          rintro F2 H2 ⟨rfl, rfl⟩
          refine hn26 _ _ ?_
          refine AW_fin true try_mixed (by kernel_rfl) ?_
          have g'48 := (jn @h24 (jn @h24d g'45))
          refine runTf g'48 ?_
          refine cond_split (fun h25 => ?_) (fun h25 => ?_)
          · have h25d := bsT h25
            have g'49 := (jn @h25 (jn @h25d g'48))
            refine runTf g'49 ?_
            refine cond_split (fun h26 => ?_) (fun h26 => ?_)
            · have h26d := bsT h26
              have g'50 := (jn @h26 (jn @h26d g'49))
              refine runTf g'50 ?_
              exact hQ _ _ (end_plain (.inl rfl) hbel (x := .agg [.int .i64 0, .int .i64 0, .int .i64 0, .int .i64 0, .bool true, .bool false]) (resT Tryz.results310) rfl ⟨by first | (unfold tiV; rw [hfinE]; rfl) | (simp only [tiV, tmE, tmS, tmL, tmH, mxF, mnF, lo0, haX, haY, h1d, h9d, h16d, h24d, h25d, h26d, if_neg hnX, if_neg hnY, Int.lt_irrefl, ite_self, if_true, if_false, decide_true, decide_false, Bool.or_true, Bool.or_false, Bool.or_self, Bool.false_eq_true]; done) | (simp only [tiV, tmE, tmS, tmL, tmH, mxF, mnF, lo0, haX, haY, h1d, h9d, h16d, h24d, h25d, h26d, if_pos hX0, if_neg hnY, Int.lt_irrefl, ite_self, if_true, if_false, decide_true, decide_false, Bool.or_true, Bool.or_false, Bool.or_self, Bool.false_eq_true]; done) | (simp only [tiV, tmE, tmS, tmL, tmH, mxF, mnF, lo0, haX, haY, h1d, h9d, h16d, h24d, h25d, h26d, if_neg hnX, if_pos hY0, Int.lt_irrefl, ite_self, if_true, if_false, decide_true, decide_false, Bool.or_true, Bool.or_false, Bool.or_self, Bool.false_eq_true]; done) | skip, rfl⟩)
            · have h26d := bsT h26
              have g'51 := (jn @h26 (jn @h26d g'49))
              refine runTf g'51 ?_
              exact hQ _ _ (end_plain (.inl rfl) hbel (x := .agg [.int .i64 0, .int .i64 1, .int .i64 ((sbH py vy y0 y1).1), .int .i64 ((sbH py vy y0 y1).2), .bool false, .bool false]) (resT Tryz.results310) rfl ⟨by first | (unfold tiV; rw [hfinE]; rfl) | (simp only [tiV, tmE, tmS, tmL, tmH, mxF, mnF, lo0, haX, haY, h1d, h9d, h16d, h24d, h25d, h26d, if_neg hnX, if_neg hnY, Int.lt_irrefl, ite_self, if_true, if_false, decide_true, decide_false, Bool.or_true, Bool.or_false, Bool.or_self, Bool.false_eq_true]; done) | (simp only [tiV, tmE, tmS, tmL, tmH, mxF, mnF, lo0, haX, haY, h1d, h9d, h16d, h24d, h25d, h26d, if_pos hX0, if_neg hnY, Int.lt_irrefl, ite_self, if_true, if_false, decide_true, decide_false, Bool.or_true, Bool.or_false, Bool.or_self, Bool.false_eq_true]; done) | (simp only [tiV, tmE, tmS, tmL, tmH, mxF, mnF, lo0, haX, haY, h1d, h9d, h16d, h24d, h25d, h26d, if_neg hnX, if_pos hY0, Int.lt_irrefl, ite_self, if_true, if_false, decide_true, decide_false, Bool.or_true, Bool.or_false, Bool.or_self, Bool.false_eq_true]; done) | skip, rfl⟩)
          · have h25d := bsT h25
            have g'52 := (jn @h25 (jn @h25d g'48))
            refine runTf g'52 ?_
            refine cond_split (fun h27 => ?_) (fun h27 => ?_)
            · have h27d := bsT h27
              have g'53 := (jn @h27 (jn @h27d g'52))
              refine runTf g'53 ?_
              exact hQ _ _ (end_plain (.inl rfl) hbel (x := .agg [.int .i64 0, .int .i64 0, .int .i64 0, .int .i64 0, .bool true, .bool false]) (resT Tryz.results310) rfl ⟨by first | (unfold tiV; rw [hfinE]; rfl) | (simp only [tiV, tmE, tmS, tmL, tmH, mxF, mnF, lo0, haX, haY, h1d, h9d, h16d, h24d, h25d, h27d, if_neg hnX, if_neg hnY, Int.lt_irrefl, ite_self, if_true, if_false, decide_true, decide_false, Bool.or_true, Bool.or_false, Bool.or_self, Bool.false_eq_true]; done) | (simp only [tiV, tmE, tmS, tmL, tmH, mxF, mnF, lo0, haX, haY, h1d, h9d, h16d, h24d, h25d, h27d, if_pos hX0, if_neg hnY, Int.lt_irrefl, ite_self, if_true, if_false, decide_true, decide_false, Bool.or_true, Bool.or_false, Bool.or_self, Bool.false_eq_true]; done) | (simp only [tiV, tmE, tmS, tmL, tmH, mxF, mnF, lo0, haX, haY, h1d, h9d, h16d, h24d, h25d, h27d, if_neg hnX, if_pos hY0, Int.lt_irrefl, ite_self, if_true, if_false, decide_true, decide_false, Bool.or_true, Bool.or_false, Bool.or_self, Bool.false_eq_true]; done) | skip, rfl⟩)
            · have h27d := bsT h27
              have g'54 := (jn @h27 (jn @h27d g'52))
              refine runTf g'54 ?_
              exact hQ _ _ (end_plain (.inl rfl) hbel (x := .agg [.int .i64 ((sbL px vx x0 x1).1), .int .i64 ((sbL px vx x0 x1).2), .int .i64 ((sbH py vy y0 y1).1), .int .i64 ((sbH py vy y0 y1).2), .bool false, .bool false]) (resT Tryz.results310) rfl ⟨by first | (unfold tiV; rw [hfinE]; rfl) | (simp only [tiV, tmE, tmS, tmL, tmH, mxF, mnF, lo0, haX, haY, h1d, h9d, h16d, h24d, h25d, h27d, if_neg hnX, if_neg hnY, Int.lt_irrefl, ite_self, if_true, if_false, decide_true, decide_false, Bool.or_true, Bool.or_false, Bool.or_self, Bool.false_eq_true]; done) | (simp only [tiV, tmE, tmS, tmL, tmH, mxF, mnF, lo0, haX, haY, h1d, h9d, h16d, h24d, h25d, h27d, if_pos hX0, if_neg hnY, Int.lt_irrefl, ite_self, if_true, if_false, decide_true, decide_false, Bool.or_true, Bool.or_false, Bool.or_self, Bool.false_eq_true]; done) | (simp only [tiV, tmE, tmS, tmL, tmH, mxF, mnF, lo0, haX, haY, h1d, h9d, h16d, h24d, h25d, h27d, if_neg hnX, if_pos hY0, Int.lt_irrefl, ite_self, if_true, if_false, decide_true, decide_false, Bool.or_true, Bool.or_false, Bool.or_self, Bool.false_eq_true]; done) | skip, rfl⟩)
        · have h24d := bsT h24
          refine AW_fin true try_mixed (by kernel_rfl) ?_
          have g'55 := (jn @h24 (jn @h24d g'45))
          refine runTf g'55 ?_
          refine hn26 _ _ ?_
          refine AW_fin true try_mixed (by kernel_rfl) ?_
          refine runTf g'55 ?_
          refine cond_split (fun h28 => ?_) (fun h28 => ?_)
          · have h28d := bsT h28
            have g'56 := (jn @h28 (jn @h28d g'55))
            refine runTf g'56 ?_
            refine cond_split (fun h29 => ?_) (fun h29 => ?_)
            · have h29d := bsT h29
              have g'57 := (jn @h29 (jn @h29d g'56))
              refine runTf g'57 ?_
              exact hQ _ _ (end_plain (.inl rfl) hbel (x := .agg [.int .i64 0, .int .i64 0, .int .i64 0, .int .i64 0, .bool true, .bool false]) (resT Tryz.results310) rfl ⟨by first | (unfold tiV; rw [hfinE]; rfl) | (simp only [tiV, tmE, tmS, tmL, tmH, mxF, mnF, lo0, haX, haY, h1d, h9d, h16d, h24d, h28d, h29d, if_neg hnX, if_neg hnY, Int.lt_irrefl, ite_self, if_true, if_false, decide_true, decide_false, Bool.or_true, Bool.or_false, Bool.or_self, Bool.false_eq_true]; done) | (simp only [tiV, tmE, tmS, tmL, tmH, mxF, mnF, lo0, haX, haY, h1d, h9d, h16d, h24d, h28d, h29d, if_pos hX0, if_neg hnY, Int.lt_irrefl, ite_self, if_true, if_false, decide_true, decide_false, Bool.or_true, Bool.or_false, Bool.or_self, Bool.false_eq_true]; done) | (simp only [tiV, tmE, tmS, tmL, tmH, mxF, mnF, lo0, haX, haY, h1d, h9d, h16d, h24d, h28d, h29d, if_neg hnX, if_pos hY0, Int.lt_irrefl, ite_self, if_true, if_false, decide_true, decide_false, Bool.or_true, Bool.or_false, Bool.or_self, Bool.false_eq_true]; done) | skip, rfl⟩)
            · have h29d := bsT h29
              have g'58 := (jn @h29 (jn @h29d g'56))
              refine runTf g'58 ?_
              exact hQ _ _ (end_plain (.inl rfl) hbel (x := .agg [.int .i64 0, .int .i64 1, .int .i64 ((sbH px vx x0 x1).1), .int .i64 ((sbH px vx x0 x1).2), .bool false, .bool false]) (resT Tryz.results310) rfl ⟨by first | (unfold tiV; rw [hfinE]; rfl) | (simp only [tiV, tmE, tmS, tmL, tmH, mxF, mnF, lo0, haX, haY, h1d, h9d, h16d, h24d, h28d, h29d, if_neg hnX, if_neg hnY, Int.lt_irrefl, ite_self, if_true, if_false, decide_true, decide_false, Bool.or_true, Bool.or_false, Bool.or_self, Bool.false_eq_true]; done) | (simp only [tiV, tmE, tmS, tmL, tmH, mxF, mnF, lo0, haX, haY, h1d, h9d, h16d, h24d, h28d, h29d, if_pos hX0, if_neg hnY, Int.lt_irrefl, ite_self, if_true, if_false, decide_true, decide_false, Bool.or_true, Bool.or_false, Bool.or_self, Bool.false_eq_true]; done) | (simp only [tiV, tmE, tmS, tmL, tmH, mxF, mnF, lo0, haX, haY, h1d, h9d, h16d, h24d, h28d, h29d, if_neg hnX, if_pos hY0, Int.lt_irrefl, ite_self, if_true, if_false, decide_true, decide_false, Bool.or_true, Bool.or_false, Bool.or_self, Bool.false_eq_true]; done) | skip, rfl⟩)
          · have h28d := bsT h28
            have g'59 := (jn @h28 (jn @h28d g'55))
            refine runTf g'59 ?_
            refine cond_split (fun h30 => ?_) (fun h30 => ?_)
            · have h30d := bsT h30
              have g'60 := (jn @h30 (jn @h30d g'59))
              refine runTf g'60 ?_
              exact hQ _ _ (end_plain (.inl rfl) hbel (x := .agg [.int .i64 0, .int .i64 0, .int .i64 0, .int .i64 0, .bool true, .bool false]) (resT Tryz.results310) rfl ⟨by first | (unfold tiV; rw [hfinE]; rfl) | (simp only [tiV, tmE, tmS, tmL, tmH, mxF, mnF, lo0, haX, haY, h1d, h9d, h16d, h24d, h28d, h30d, if_neg hnX, if_neg hnY, Int.lt_irrefl, ite_self, if_true, if_false, decide_true, decide_false, Bool.or_true, Bool.or_false, Bool.or_self, Bool.false_eq_true]; done) | (simp only [tiV, tmE, tmS, tmL, tmH, mxF, mnF, lo0, haX, haY, h1d, h9d, h16d, h24d, h28d, h30d, if_pos hX0, if_neg hnY, Int.lt_irrefl, ite_self, if_true, if_false, decide_true, decide_false, Bool.or_true, Bool.or_false, Bool.or_self, Bool.false_eq_true]; done) | (simp only [tiV, tmE, tmS, tmL, tmH, mxF, mnF, lo0, haX, haY, h1d, h9d, h16d, h24d, h28d, h30d, if_neg hnX, if_pos hY0, Int.lt_irrefl, ite_self, if_true, if_false, decide_true, decide_false, Bool.or_true, Bool.or_false, Bool.or_self, Bool.false_eq_true]; done) | skip, rfl⟩)
            · have h30d := bsT h30
              have g'61 := (jn @h30 (jn @h30d g'59))
              refine runTf g'61 ?_
              exact hQ _ _ (end_plain (.inl rfl) hbel (x := .agg [.int .i64 ((sbL px vx x0 x1).1), .int .i64 ((sbL px vx x0 x1).2), .int .i64 ((sbH px vx x0 x1).1), .int .i64 ((sbH px vx x0 x1).2), .bool false, .bool false]) (resT Tryz.results310) rfl ⟨by first | (unfold tiV; rw [hfinE]; rfl) | (simp only [tiV, tmE, tmS, tmL, tmH, mxF, mnF, lo0, haX, haY, h1d, h9d, h16d, h24d, h28d, h30d, if_neg hnX, if_neg hnY, Int.lt_irrefl, ite_self, if_true, if_false, decide_true, decide_false, Bool.or_true, Bool.or_false, Bool.or_self, Bool.false_eq_true]; done) | (simp only [tiV, tmE, tmS, tmL, tmH, mxF, mnF, lo0, haX, haY, h1d, h9d, h16d, h24d, h28d, h30d, if_pos hX0, if_neg hnY, Int.lt_irrefl, ite_self, if_true, if_false, decide_true, decide_false, Bool.or_true, Bool.or_false, Bool.or_self, Bool.false_eq_true]; done) | (simp only [tiV, tmE, tmS, tmL, tmH, mxF, mnF, lo0, haX, haY, h1d, h9d, h16d, h24d, h28d, h30d, if_neg hnX, if_pos hY0, Int.lt_irrefl, ite_self, if_true, if_false, decide_true, decide_false, Bool.or_true, Bool.or_false, Bool.or_self, Bool.false_eq_true]; done) | skip, rfl⟩)
open Go.RowKit
theorem times_t (H : AHeap) (px py vx vy vd x0 y0 x1 y1 : Int) (hg : thG px py vx vy vd x0 y0 x1 y1 = true) (h : tmE px py vx vy x0 y0 x1 y1 = true) : ACalls Tryz.prog 310 [.agg [.int .i64 px, .int .i64 py], .agg [.int .i64 vx, .int .i64 vy, .int .i64 vd], .agg [.int .i64 x0, .int .i64 y0, .int .i64 x1, .int .i64 y1]] H (fun v H' => v = .agg [.int .i64 0, .int .i64 0, .int .i64 0, .int .i64 0, .bool true, .bool false] ∧ H' = H) := by
  have q := times_c H px py vx vy vd x0 y0 x1 y1 hg
  simp only [tiV, h, if_true] at q; exact q
theorem times_f (H : AHeap) (px py vx vy vd x0 y0 x1 y1 : Int) (hg : thG px py vx vy vd x0 y0 x1 y1 = true) (h : tmE px py vx vy x0 y0 x1 y1 = false) : ACalls Tryz.prog 310 [.agg [.int .i64 px, .int .i64 py], .agg [.int .i64 vx, .int .i64 vy, .int .i64 vd], .agg [.int .i64 x0, .int .i64 y0, .int .i64 x1, .int .i64 y1]] H (fun v H' => v = .agg [.int .i64 (tmS px py vx vy x0 y0 x1 y1).1.1, .int .i64 (tmS px py vx vy x0 y0 x1 y1).1.2, .int .i64 (tmS px py vx vy x0 y0 x1 y1).2.1, .int .i64 (tmS px py vx vy x0 y0 x1 y1).2.2, .bool false, .bool false] ∧ H' = H) := by
  have q := times_c H px py vx vy vd x0 y0 x1 y1 hg
  simp only [tiV, h, if_false, Bool.false_eq_true] at q; exact q
theorem gcd5_n (H : AHeap) (a0 : Nat) (b0 : Nat) : ACalls Tryz.prog 375 [.int .i64 ((a0 : Nat) : Int), .int .i64 ((b0 : Nat) : Int)] H (fun v H' => v = .int .i64 ((Nat.gcd a0 b0 : Nat) : Int) ∧ H' = H) := by
  refine AcT true Tryz.func375 ?_; intro hbel Q hQ
  have g'1 := @rem_nat
  refine runTf g'1 ?_
  refine go_loop try_mixed (by kernel_rfl) (fun k F Hx => ∃ a : Nat, ∃ b : Nat, b = k ∧ Nat.gcd a b = Nat.gcd a0 b0 ∧ F = [(0, .int .i64 ((a : Nat) : Int)), (1, .int .i64 ((b : Nat) : Int))] ∧ H = Hx) (b0) ?_ ?_
  · refine ⟨_, _, _, ⟨a0, b0, by omega, rfl, rfl, rfl⟩, Abs.by0 hbel ?_⟩
    exact absW
  · rintro k0 F Hx ⟨a, b, hm0, hG, rfl, rfl⟩ J0 hJ0
    refine runTf g'1 ?_
    refine cond_split (fun h1 => ?_) (fun h1 => ?_)
    · have h1d := bsT h1
      have hlt : a % b < b := Nat.mod_lt _ (by omega)
      have g'2 := (jn @h1 (jn @h1d g'1))
      refine runTf g'2 ?_
      refine hJ0 _ _ ⟨a % b, by omega, _, _, _, ⟨b, a % b, by omega, by rw [← hG, gcd_step], rfl, rfl⟩, Abs.by0 hbel ?_⟩
      exact absW
    · have h1d := bsT h1
      obtain rfl : b = 0 := by omega
      rw [Nat.gcd_zero_right] at hG
      have hfing := hG
      have g'3 := (jn @h1 (jn @h1d g'1))
      refine runTf g'3 ?_
      exact hQ _ _ (end_plain0 (.inl rfl) hbel (x := .int .i64 ((a : Nat) : Int)) (resT Tryz.results375) rfl ⟨congrArg (AV.int .i64) (by rw [hfing]), rfl⟩)
theorem gcd5_x (H : AHeap) (n d : Int) (hn : 0 ≤ n) (hd : 0 ≤ d) : ACalls Tryz.prog 375 [.int .i64 n, .int .i64 d] H (fun v H' => v = .int .i64 ((Int.gcd n d : Nat) : Int) ∧ H' = H) := by
  obtain ⟨a, rfl⟩ := Int.eq_ofNat_of_zero_le hn
  obtain ⟨b, rfl⟩ := Int.eq_ofNat_of_zero_le hd
  exact gcd5_n H a b
theorem low5_c (H : AHeap) (n : Int) (d : Int) (hn : 0 ≤ n ∧ n ≤ 4611686018427387904) (hd : 0 < d ∧ d ≤ 4611686018427387904) : ACalls Tryz.prog 311 [.int .i64 n, .int .i64 d] H (fun v H' => v = .agg [.int .i64 (lwN n d), .int .i64 (lwD n d)] ∧ H' = H) := by
  have hg0 := gcd_pos (n := n) hd.1
  have t1 := tdiv_bd (a := n) (b := ((Int.gcd n d : Nat) : Int)) hg0 (by omega)
  have t2 := tdiv_bd (a := d) (b := ((Int.gcd n d : Nat) : Int)) hg0 (by omega)
  have hlw := lw_tdiv hn.1 hd.1
  refine AcT true Tryz.func311 ?_; intro hbel Q hQ
  refine runT ?_
  refine call_v (by kernel_rfl) (gcd5_x _ n d (by omega) (by omega)) ?_
  refine runT ?_
  exact hQ _ _ (end_plain (.inl rfl) hbel (x := .agg [.int .i64 (Int.tdiv n ((Int.gcd n d : Nat) : Int)), .int .i64 (Int.tdiv d ((Int.gcd n d : Nat) : Int))]) (resT Tryz.results311) rfl ⟨by rw [hlw.1, hlw.2], rfl⟩)
theorem r5ok_c (H : AHeap) (px : Int) (py : Int) (vx : Int) (vy : Int) (vd : Int) (x0 : Int) (y0 : Int) (x1 : Int) (y1 : Int) : ACalls Tryz.prog 309 [.agg [.int .i64 px, .int .i64 py], .agg [.int .i64 vx, .int .i64 vy, .int .i64 vd], .agg [.int .i64 x0, .int .i64 y0, .int .i64 x1, .int .i64 y1]] H (fun v H' => v = .bool (thG px py vx vy vd x0 y0 x1 y1) ∧ H' = H) := by
  refine AcT true Tryz.func309 ?_; intro hbel Q hQ
  refine runT ?_
  refine call_v (by kernel_rfl) (r5pt_c _ px py) ?_
  refine runT ?_
  refine gd_split (fun h1 => ?_) (fun h1 => ?_)
  · have h1d := bsT h1
    have g'4 := (jn @h1 @h1d)
    refine runTf g'4 ?_
    refine call_v (by kernel_rfl) (bvec_c _ vx vy vd) ?_
    refine runTf g'4 ?_
    refine gd_split (fun h2 => ?_) (fun h2 => ?_)
    · have h2d := bsT h2
      have g'5 := (jn @h2 (jn @h2d g'4))
      refine runTf g'5 ?_
      refine call_v (by kernel_rfl) (r5rc_c _ x0 y0 x1 y1) ?_
      refine runTf g'5 ?_
      exact hQ _ _ (end_plain (.inl rfl) hbel (x := .bool (lnR x0 y0 x1 y1)) (resT Tryz.results309) rfl ⟨by simp [thG, h1d, h2d], rfl⟩)
    · have h2d := bsT h2
      have g'6 := (jn @h2 (jn @h2d g'4))
      refine runTf g'6 ?_
      exact hQ _ _ (end_plain (.inl rfl) hbel (x := .bool false) (resT Tryz.results309) rfl ⟨by simp [thG, h1d, h2d], rfl⟩)
  · have h1d := bsT h1
    have g'7 := (jn @h1 @h1d)
    refine runTf g'7 ?_
    exact hQ _ _ (end_plain (.inl rfl) hbel (x := .bool false) (resT Tryz.results309) rfl ⟨by simp [thG, h1d], rfl⟩)
theorem renter_c (H : AHeap) (px : Int) (py : Int) (vx : Int) (vy : Int) (vd : Int) (x0 : Int) (y0 : Int) (x1 : Int) (y1 : Int) : ACalls Tryz.prog 242 [.agg [.int .i64 px, .int .i64 py], .agg [.int .i64 vx, .int .i64 vy, .int .i64 vd], .agg [.int .i64 x0, .int .i64 y0, .int .i64 x1, .int .i64 y1]] H (fun v H' => v = .tup [.agg [.int .i64 (mkV (rO px py vx vy vd x0 y0 x1 y1) (enN px py vx vy vd x0 y0 x1 y1)), .int .i64 (mkV (rO px py vx vy vd x0 y0 x1 y1) (enD px py vx vy vd x0 y0 x1 y1))], .bool (rO px py vx vy vd x0 y0 x1 y1)] ∧ H' = H) := by
  refine AcT true Tryz.func242 ?_; intro hbel Q hQ
  refine runT ?_
  refine call_v (by kernel_rfl) (r5ok_c _ px py vx vy vd x0 y0 x1 y1) ?_
  refine runT ?_
  refine cond_split (fun h1 => ?_) (fun h1 => ?_)
  · have h1d := bsT h1
    have hfinO : rO px py vx vy vd x0 y0 x1 y1 = false := by unfold rO; rw [h1d]; rfl
    have g'8 := (jn @h1 @h1d)
    refine runTf g'8 ?_
    exact hQ _ _ (end_plain (.inl rfl) hbel (x := .tup [.agg [.int .i64 0, .int .i64 0], .bool false]) (resT Tryz.results242) rfl ⟨by unfold mkV; rw [hfinO]; rfl, rfl⟩)
  · have h1d := bsT h1
    have hg := h1d
    have hbd := tmS_bd hg
    obtain ⟨⟨hb1, hb2⟩, hb3, hb4⟩ := hbd
    have hvv := vecB_iff.1 (thG_iff.1 hg).2.1
    have hm1 := mul_bd (a := (tmS px py vx vy x0 y0 x1 y1).1.1) (b := vd) (A := 8388608) (B := 67108864) (by omega) (by omega)
    have hm2 := mul_bd (a := (tmS px py vx vy x0 y0 x1 y1).2.1) (b := vd) (A := 8388608) (B := 67108864) (by omega) (by omega)
    have hn1 := Int.mul_nonneg (tmS_nn (px := px) (py := py) (vx := vx) (vy := vy) (x0 := x0) (y0 := y0) (x1 := x1) (y1 := y1)) (show 0 ≤ vd by omega)
    have g'9 := (jn @h1 @h1d)
    refine runTf g'9 ?_
    rcases Bool.eq_false_or_eq_true (tmE px py vx vy x0 y0 x1 y1) with h2 | h2
    · have h2d := h2
      have hfinO : rO px py vx vy vd x0 y0 x1 y1 = false := by unfold rO; rw [h2d]; simp
      refine call_v (by kernel_rfl) (times_t _ px py vx vy vd x0 y0 x1 y1 (by assumption) (by assumption)) ?_
      have g'10 := (jn @h2 (jn @h2d g'9))
      refine runTf g'10 ?_
      exact hQ _ _ (end_plain (.inl rfl) hbel (x := .tup [.agg [.int .i64 0, .int .i64 0], .bool false]) (resT Tryz.results242) rfl ⟨by unfold mkV; rw [hfinO]; rfl, rfl⟩)
    · have h2d := h2
      have hfinO : rO px py vx vy vd x0 y0 x1 y1 = true := by unfold rO; rw [h2d, hg]; rfl
      have hn2 := Int.mul_nonneg (tmS_hn hg h2d) (show 0 ≤ vd by omega)
      refine call_v (by kernel_rfl) (times_f _ px py vx vy vd x0 y0 x1 y1 (by assumption) (by assumption)) ?_
      have g'11 := (jn @h2 (jn @h2d g'9))
      refine runTf g'11 ?_
      refine call_v (by kernel_rfl) (low5_c _ (((tmS px py vx vy x0 y0 x1 y1).1.1) * vd) ((tmS px py vx vy x0 y0 x1 y1).1.2) (by omega) (by omega)) ?_
      refine runTf g'11 ?_
      exact hQ _ _ (end_plain (.inl rfl) hbel (x := .tup [.agg [.int .i64 (lwN (((tmS px py vx vy x0 y0 x1 y1).1.1) * vd) ((tmS px py vx vy x0 y0 x1 y1).1.2)), .int .i64 (lwD (((tmS px py vx vy x0 y0 x1 y1).1.1) * vd) ((tmS px py vx vy x0 y0 x1 y1).1.2))], .bool true]) (resT Tryz.results242) rfl ⟨by unfold mkV; rw [hfinO]; rfl, rfl⟩)
open Go.RowKit
/-- The first wall: the first of the nearest among those that count. -/
def fsStep (Q : Int × Int → Bool) (D : Int × Int → Int × Int) (s : Option (Int × Int)) (c : Int × Int) : Option (Int × Int) :=
  if Q c = true ∧ (∀ b, s = some b → (D c).1 * (D b).2 < (D b).1 * (D c).2) then some c else s
def fsF (Q : Int × Int → Bool) (D : Int × Int → Int × Int) (l : List (Int × Int)) : Option (Int × Int) := l.foldl (fsStep Q D) none
theorem fs_law {Q : Int × Int → Bool} {D : Int × Int → Int × Int} (hD : ∀ c, 0 < (D c).2) : ∀ (l : List (Int × Int)) (s : Option (Int × Int)), (∀ b, s = some b → Q b = true) →
    (l.foldl (fsStep Q D) s = none ↔ s = none ∧ ∀ c ∈ l, Q c = false) ∧
    (∀ b, l.foldl (fsStep Q D) s = some b → (s = some b ∨ b ∈ l) ∧ Q b = true ∧ (∀ c, s = some c → (D b).1 * (D c).2 ≤ (D c).1 * (D b).2) ∧ ∀ c ∈ l, Q c = true → (D b).1 * (D c).2 ≤ (D c).1 * (D b).2)
  | [], s, hs => ⟨by simp, fun b h => ⟨.inl h, hs b h, fun c hc => by
      have h : s = some b := h
      rw [hc] at h; cases h; exact Int.le_refl _, fun c hc => absurd hc (by simp)⟩⟩
  | c :: l, s, hs => by
    rw [List.foldl_cons]
    have hs' : ∀ b, fsStep Q D s c = some b → Q b = true := fun b hb => by
      unfold fsStep at hb
      split at hb
      · rename_i h; cases hb; exact h.1
      · exact hs b hb
    have ih := fs_law hD l (fsStep Q D s c) hs'
    have tr : ∀ {x y z : Int × Int}, (D x).1 * (D y).2 ≤ (D y).1 * (D x).2 → (D y).1 * (D z).2 ≤ (D z).1 * (D y).2 → (D x).1 * (D z).2 ≤ (D z).1 * (D x).2 := fun {x y z} h1 h2 => fr_trans (hD x) (hD y) (hD z) h1 h2
    by_cases hq : Q c = true ∧ (∀ b, s = some b → (D c).1 * (D b).2 < (D b).1 * (D c).2)
    · have e : fsStep Q D s c = some c := if_pos hq
      rw [e] at ih ⊢
      refine ⟨⟨fun h => absurd (ih.1.1 h).1 (by simp), fun h => absurd (h.2 c (List.mem_cons_self ..)) (by rw [hq.1]; decide)⟩, fun b hb => ?_⟩
      obtain ⟨i1, i2, i3, i4⟩ := ih.2 b hb
      have hbc := i3 c rfl
      refine ⟨?_, i2, fun x hx => tr hbc (Int.le_of_lt (hq.2 x hx)), fun x hx hQ => ?_⟩
      · rcases i1 with i1 | i1
        · cases i1; exact .inr (List.mem_cons_self ..)
        · exact .inr (List.mem_cons_of_mem _ i1)
      · rcases List.mem_cons.1 hx with q | q
        · rw [q]; exact hbc
        · exact i4 x q hQ
    · have e : fsStep Q D s c = s := if_neg hq
      rw [e] at ih ⊢
      have hc : Q c = true → ∃ b, s = some b ∧ (D b).1 * (D c).2 ≤ (D c).1 * (D b).2 := fun hQ => by
        cases hs0 : s with
        | none => exact absurd ⟨hQ, fun b hb => by rw [hs0] at hb; cases hb⟩ hq
        | some b => exact ⟨b, rfl, by
            rcases Int.lt_or_le ((D c).1 * (D b).2) ((D b).1 * (D c).2) with h | h
            · exact absurd ⟨hQ, fun b' hb' => by rw [hs0] at hb'; cases hb'; exact h⟩ hq
            · exact h⟩
      refine ⟨⟨fun h => ?_, fun h => ih.1.2 ⟨h.1, fun x hx => h.2 x (List.mem_cons_of_mem _ hx)⟩⟩, fun b hb => ?_⟩
      · obtain ⟨h1, h2⟩ := ih.1.1 h
        refine ⟨h1, fun x hx => ?_⟩
        rcases List.mem_cons.1 hx with q | q
        · rw [q]
          cases hQ : Q c
          · rfl
          · obtain ⟨b, hb, -⟩ := hc hQ
            rw [h1] at hb; cases hb
        · exact h2 x q
      · obtain ⟨i1, i2, i3, i4⟩ := ih.2 b hb
        refine ⟨i1.elim .inl fun k => .inr (List.mem_cons_of_mem _ k), i2, i3, fun x hx hQ => ?_⟩
        rcases List.mem_cons.1 hx with q | q
        · rw [q] at hQ ⊢
          obtain ⟨b', hb', h⟩ := hc hQ
          exact tr (i3 b' hb') h
        · exact i4 x q hQ
/-- What the first wall is. -/
theorem fs_some {Q : Int × Int → Bool} {D : Int × Int → Int × Int} (hD : ∀ c, 0 < (D c).2) {l : List (Int × Int)} {b : Int × Int} (h : fsF Q D l = some b) : b ∈ l ∧ Q b = true ∧ ∀ c ∈ l, Q c = true → (D b).1 * (D c).2 ≤ (D c).1 * (D b).2 := by
  obtain ⟨i1, i2, -, i4⟩ := (fs_law hD l none (fun b hb => by cases hb)).2 b h
  exact ⟨i1.resolve_left (by simp), i2, i4⟩
theorem fs_none {Q : Int × Int → Bool} {D : Int × Int → Int × Int} (hD : ∀ c, 0 < (D c).2) {l : List (Int × Int)} : fsF Q D l = none ↔ ∀ c ∈ l, Q c = false := by
  have := (fs_law (Q := Q) hD l none (fun b hb => by cases hb)).1
  exact this.trans ⟨fun h => h.2, fun h => ⟨rfl, h⟩⟩
/-- A reading holds the distance within its bound. -/
theorem read_bd {N D e rng z : Int} (hD : 0 < D) (hN : 0 ≤ N) (he : 1 - rng ≤ e ∧ e ≤ rng) (hz : (0 ≤ N / D + e ∧ z = N / D + e) ∨ (N / D + e < 0 ∧ z = 0)) : (z - rng) * D ≤ N ∧ N < (z + rng) * D := by
  have q1 : N / D * D ≤ N := Int.ediv_mul_le N (by omega)
  have q2 : N < (N / D + 1) * D := Int.lt_ediv_add_one_mul_self N hD
  have q0 : 0 ≤ N / D := Int.ediv_nonneg hN (by omega)
  rcases hz with ⟨h, rfl⟩ | ⟨h, rfl⟩
  · have a1 := Int.mul_le_mul_of_nonneg_right (show N / D + e - rng ≤ N / D by omega) (show 0 ≤ D by omega)
    have a2 := Int.mul_le_mul_of_nonneg_right (show N / D + 1 ≤ N / D + e + rng by omega) (show 0 ≤ D by omega)
    omega
  · have a1 := Int.mul_le_mul_of_nonneg_right (show 0 - rng ≤ 0 by omega) (show 0 ≤ D by omega)
    have a2 := Int.mul_le_mul_of_nonneg_right (show N / D + 1 ≤ 0 + rng by omega) (show 0 ≤ D by omega)
    rw [Int.zero_mul] at a1
    omega
/-- The reference compares two distances by their whole parts and their rests. -/
theorem less_iff {a b c d : Int} (ha : 0 ≤ a) (hb : 0 < b) (hc : 0 ≤ c) (hd : 0 < d) : (if a / b ≠ c / d then a / b < c / d else a % b * d < c % d * b) ↔ a * d < c * b := by
  have e1 := Int.mul_ediv_add_emod a b
  have e2 := Int.mul_ediv_add_emod c d
  have r1 := Int.emod_nonneg a (show b ≠ 0 by omega)
  have r2 := Int.emod_lt_of_pos a hb
  have r3 := Int.emod_nonneg c (show d ≠ 0 by omega)
  have r4 := Int.emod_lt_of_pos c hd
  generalize a / b = p at *
  generalize a % b = r at *
  generalize c / d = q at *
  generalize c % d = s at *
  subst e1 e2
  have f1 : (b * p + r) * d = b * d * p + r * d := by grind
  have f2 : (d * q + s) * b = b * d * q + s * b := by grind
  rw [f1, f2]
  have hbd := Int.mul_pos hb hd
  have g1 := Int.mul_nonneg r1 (show 0 ≤ d by omega)
  have g2 := Int.mul_nonneg r3 (show 0 ≤ b by omega)
  have g3 := Int.mul_lt_mul_of_pos_right r2 hd
  have g4 := Int.mul_lt_mul_of_pos_right r4 hb
  have g5 : d * b = b * d := Int.mul_comm _ _
  split
  · rename_i h
    rcases Int.lt_trichotomy p q with k | k | k
    · have := Int.mul_le_mul_of_nonneg_left (show p + 1 ≤ q by omega) (show 0 ≤ b * d by omega)
      have e : b * d * (p + 1) = b * d * p + b * d := by grind
      exact ⟨fun _ => by omega, fun _ => k⟩
    · exact absurd k h
    · have := Int.mul_le_mul_of_nonneg_left (show q + 1 ≤ p by omega) (show 0 ≤ b * d by omega)
      have e : b * d * (q + 1) = b * d * q + b * d := by grind
      exact ⟨fun h => by omega, fun h => by omega⟩
  · rename_i h
    have h : p = q := by omega
    subst h
    omega
/-- The reference's entry distance at a cell. -/
def enC (px py vx vy vd : Int) (c : Int × Int) : Int := enN px py vx vy vd (c.1 * 64) (c.2 * 64) (c.1 * 64 + 64) (c.2 * 64 + 64)
def edC (px py vx vy vd : Int) (c : Int × Int) : Int := enD px py vx vy vd (c.1 * 64) (c.2 * 64) (c.1 * 64 + 64) (c.2 * 64 + 64)
def rOC (px py vx vy vd : Int) (c : Int × Int) : Bool := rO px py vx vy vd (c.1 * 64) (c.2 * 64) (c.1 * 64 + 64) (c.2 * 64 + 64)
/-- A wall that the ray meets within the limit; its distance. -/
def fsQ (W Hh : Int) (xs : List Int) (px py vx vy vd most : Int) (c : Int × Int) : Bool := (atI W Hh xs c.1 c.2 == 2) && (rOC px py vx vy vd c && !decide (most * edC px py vx vy vd c < enC px py vx vy vd c * 1))
def fsD (px py vx vy vd : Int) (c : Int × Int) : Int × Int := if rOC px py vx vy vd c = true then (enC px py vx vy vd c, edC px py vx vy vd c) else (0, 1)
theorem fsD_pos {px py vx vy vd : Int} (c : Int × Int) : 0 < (fsD px py vx vy vd c).2 := by
  unfold fsD; split
  · rename_i h; exact (en_bd h).1.2.1
  · decide
theorem fsD_on {px py vx vy vd : Int} {c : Int × Int} (h : rOC px py vx vy vd c = true) : fsD px py vx vy vd c = (enC px py vx vy vd c, edC px py vx vy vd c) := if_pos h
/-- The cells so far. -/
def borA (W : Int) (n m : Nat) : List (Int × Int) := gridR (fun _ _ => true) (-1) (W + 2).toNat (-1) n ++ rowR (fun _ _ => true) (-1) (-1 + (n : Int)) m
def fsA (W Hh : Int) (xs : List Int) (px py vx vy vd most : Int) (n m : Nat) : Option (Int × Int) := fsF (fsQ W Hh xs px py vx vy vd most) (fsD px py vx vy vd) (borA W n m)
def fsZ (W Hh : Int) (xs : List Int) (px py vx vy vd most : Int) : Option (Int × Int) := fsA W Hh xs px py vx vy vd most (Hh + 2).toNat 0
def fsN (px py vx vy vd : Int) (s : Option (Int × Int)) : Int := match s with | none => 0 | some c => (fsD px py vx vy vd c).1
def fsDn (px py vx vy vd : Int) (s : Option (Int × Int)) : Int := match s with | none => 0 | some c => (fsD px py vx vy vd c).2
def oX (s : Option (Int × Int)) : Int := match s with | none => 0 | some c => c.1
def oY (s : Option (Int × Int)) : Int := match s with | none => 0 | some c => c.2
theorem borA_s {W : Int} {n m : Nat} : borA W n (m + 1) = borA W n m ++ [(-1 + (m : Int), -1 + (n : Int))] := by
  unfold borA; rw [rowR, List.append_assoc]; simp
theorem borA_w {W : Int} {n : Nat} : borA W n (W + 2).toNat = borA W (n + 1) 0 := by
  unfold borA; rw [gridR]; simp [rowR]
theorem fsA_w {W Hh : Int} {xs : List Int} {px py vx vy vd most : Int} {n : Nat} : fsA W Hh xs px py vx vy vd most n (W + 2).toNat = fsA W Hh xs px py vx vy vd most (n + 1) 0 := by unfold fsA; rw [borA_w]
theorem fsA_s {W Hh : Int} {xs : List Int} {px py vx vy vd most : Int} {n m : Nat} : fsA W Hh xs px py vx vy vd most n (m + 1) = fsStep (fsQ W Hh xs px py vx vy vd most) (fsD px py vx vy vd) (fsA W Hh xs px py vx vy vd most n m) (-1 + (m : Int), -1 + (n : Int)) := by
  unfold fsA fsF; rw [borA_s, List.foldl_append]; rfl
theorem fsA_0 {W Hh : Int} {xs : List Int} {px py vx vy vd most : Int} : fsA W Hh xs px py vx vy vd most 0 0 = none := rfl
theorem fsStep_no {Q : Int × Int → Bool} {D : Int × Int → Int × Int} {s : Option (Int × Int)} {c : Int × Int} (h : Q c = false) : fsStep Q D s c = s := if_neg (by rw [h]; simp)
theorem fsStep_far {Q : Int × Int → Bool} {D : Int × Int → Int × Int} {b c : Int × Int} (h : ¬ (D c).1 * (D b).2 < (D b).1 * (D c).2) : fsStep Q D (some b) c = some b := if_neg fun k => h (k.2 b rfl)
theorem fsStep_new {Q : Int × Int → Bool} {D : Int × Int → Int × Int} {c : Int × Int} (h : Q c = true) : fsStep Q D none c = some c := if_pos ⟨h, fun b hb => by cases hb⟩
theorem fsStep_less {Q : Int × Int → Bool} {D : Int × Int → Int × Int} {b c : Int × Int} (h : Q c = true) (k : (D c).1 * (D b).2 < (D b).1 * (D c).2) : fsStep Q D (some b) c = some c := if_pos ⟨h, fun b' hb => by cases hb; exact k⟩
theorem borA_mem {W Hh : Int} (hH : -2 ≤ Hh) (hW : -2 ≤ W) {c : Int × Int} : c ∈ borA W (Hh + 2).toNat 0 ↔ (-1 ≤ c.1 ∧ c.1 ≤ W) ∧ -1 ≤ c.2 ∧ c.2 ≤ Hh := by
  unfold borA
  rw [rowR, List.append_nil, gridR_mem]
  exact ⟨fun ⟨a, b, _⟩ => by omega, fun h => ⟨by omega, by omega, rfl⟩⟩
theorem fsA_Q {W Hh : Int} {xs : List Int} {px py vx vy vd most : Int} {n m : Nat} {b : Int × Int} (h : fsA W Hh xs px py vx vy vd most n m = some b) : fsQ W Hh xs px py vx vy vd most b = true := (fs_some fsD_pos h).2.1
theorem fsQ_rO {W Hh : Int} {xs : List Int} {px py vx vy vd most : Int} {b : Int × Int} (h : fsQ W Hh xs px py vx vy vd most b = true) : atI W Hh xs b.1 b.2 = 2 ∧ rOC px py vx vy vd b = true ∧ enC px py vx vy vd b ≤ most * edC px py vx vy vd b := by
  unfold fsQ at h
  simp only [Bool.and_eq_true, beq_iff_eq, Bool.not_eq_true', decide_eq_false_iff_not] at h
  exact ⟨h.1, h.2.1, by have := h.2.2; omega⟩
/-- How great the numbers of what is found are. -/
theorem fsA_bd {W Hh : Int} {xs : List Int} {px py vx vy vd most : Int} {n m : Nat} {b : Int × Int} (h : fsA W Hh xs px py vx vy vd most n m = some b) : (0 ≤ (fsD px py vx vy vd b).1 ∧ (fsD px py vx vy vd b).1 ≤ 562949953421312) ∧ 0 < (fsD px py vx vy vd b).2 ∧ (fsD px py vx vy vd b).2 ≤ 67108864 := by
  have k := (fsQ_rO (fsA_Q h)).2.1
  rw [fsD_on k]
  exact (en_bd k).1
theorem sbf_en {px py vx vy vd hi x0 y0 x1 y1 : Int} : sbfB px py vx vy vd hi x0 y0 x1 y1 = true ↔ (0 ≤ hi ∧ hi ≤ 65536) ∧ rO px py vx vy vd x0 y0 x1 y1 = true ∧ enN px py vx vy vd x0 y0 x1 y1 < hi * enD px py vx vy vd x0 y0 x1 y1 := by
  rw [sbf_ref]
  unfold rbefB
  simp only [Bool.and_eq_true, decide_eq_true_eq, Bool.not_eq_true']
  constructor
  · rintro ⟨h0, h1, hg, he, hl⟩
    have hr : rO px py vx vy vd x0 y0 x1 y1 = true := by unfold rO; rw [hg, he]; rfl
    exact ⟨⟨h0, h1⟩, hr, (en_le hr).2.1.2 hl⟩
  · rintro ⟨⟨h0, h1⟩, hr, hl⟩
    exact ⟨h0, h1, (rO_t hr).1, (rO_t hr).2, (en_le hr).2.1.1 hl⟩
open Go.RowKit
def swT (r g : Int) (e : T9) : List (Int × Int) := sptL e.1 e.2.1 e.2.2.1 e.2.2.2.1 e.2.2.2.2.2.2.1 e.2.2.2.2.2.2.2.1 e.2.2.2.2.2.2.2.2 (if 0 < r - g then r - g else 0) (r + g)
theorem swS_flat {l : List T9} {r g : Int} : ∀ {i : Nat}, i ≤ l.length → swS l r g i = (l.take i).flatMap (swT r g)
  | 0, _ => by simp [swS]
  | i + 1, hi => by
    have h : i < l.length := by omega
    rw [List.take_succ_eq_append_getElem h, List.flatMap_append, ← swS_flat (by omega)]
    have e := g9_eq h
    simp only [List.flatMap_cons, List.flatMap_nil, List.append_nil]
    rw [← e]; rfl
open Go.RowKit
/-- A cell in or beside a plan that is a wall. -/
def WallC (W Hh : Int) (xs : List Int) (c : Int × Int) : Prop := ((-1 ≤ c.1 ∧ c.1 ≤ W) ∧ -1 ≤ c.2 ∧ c.2 ≤ Hh) ∧ atI W Hh xs c.1 c.2 = 2
def sqBf (x y : Int) (v : Int × Int × Int) (far : Int) (c : Int × Int) : Bool := sbfB x y v.1 v.2.1 v.2.2 far (c.1 * 64) (c.2 * 64) (c.1 * 64 + 64) (c.2 * 64 + 64)
def sqMe (x y : Int) (v : Int × Int × Int) (lo hi : Int) (c : Int × Int) : Bool := smeB x y v.1 v.2.1 v.2.2 lo hi (c.1 * 64) (c.2 * 64) (c.1 * 64 + 64) (c.2 * 64 + 64)
def low0 (r g : Int) : Int := if 0 < r - g then r - g else 0
/-- A reading is plausible: no wall is nearer than it allows, and, if there is an echo, a wall is in its range. -/
def PlauP (W Hh : Int) (xs : List Int) (x y h : Int) (g : Int) (e : Int × Int) : Prop := (∀ c, WallC W Hh xs c → sqBf x y (beamV h e.1) (farF e.2 g) c = false) ∧ (¬ e.2 = -1 → ∃ c, WallC W Hh xs c ∧ sqMe x y (beamV h e.1) (low0 e.2 g) (e.2 + g) c = true)
/-- A pose is in a set. -/
def CovP (l : List T6) (x y h : Int) : Prop := ∃ b ∈ l, (b.1 ≤ x ∧ x ≤ b.2.2.1) ∧ (b.2.1 ≤ y ∧ y ≤ b.2.2.2.1) ∧ ∃ j : Nat, j < (mkB b).length ∧ h = gi (mkB b) j
theorem psC_pt {l : List T6} {m far x y : Int} {c : Int × Int} {b : T6} {j : Nat} (hS : setB l = true) (hb : b ∈ l) (hx : b.1 ≤ x ∧ x ≤ b.2.2.1) (hy : b.2.1 ≤ y ∧ y ≤ b.2.2.2.1) (hj : j < (mkB b).length) (h : prvB l m far c = true) : sqBf x y (beamV (gi (mkB b) j) m) far c = true := by
  obtain ⟨i, hi, rfl⟩ := List.mem_iff_getElem.1 hb
  have hbi : g6 l i = l[i] := g6_eq hi
  have hbx := (setB_iff.1 hS).2 _ hb
  have he : dirE l[i] m (gi (mkB l[i]) j) ∈ dirA l m := (dirS_mem (Nat.le_refl _)).2 ⟨i, j, hi, by rw [hbi]; exact hj, by rw [hbi]⟩
  have k := List.all_eq_true.1 h _ he
  unfold psC psB at k
  simp only [Bool.and_eq_true] at k
  obtain ⟨k1, k2, k3, k4⟩ := k
  have p1 := sbf_BefP k1
  have p2 := sbf_BefP k2
  have p3 := sbf_BefP k3
  have p4 := sbf_BefP k4
  have hg := thG_iff.1 p1.2.1
  have hb4 := bxB_iff.1 hbx
  exact BefP_sbf p1.1 (thG_iff.2 ⟨lnP_iff.2 (by omega), hg.2.1, hg.2.2⟩) (bef_box hx hy p1.2.2 p2.2.2 p3.2.2 p4.2.2)
theorem sme_ray {px py vx vy vd lo hi x0 y0 x1 y1 : Int} : smeB px py vx vy vd lo hi x0 y0 x1 y1 = true ↔ (0 ≤ lo ∧ lo ≤ hi ∧ hi ≤ 65536) ∧ thG px py vx vy vd x0 y0 x1 y1 = true ∧ ∃ n m : Int, 0 ≤ n ∧ 0 < m ∧ lo * m ≤ n * vd ∧ n * vd ≤ hi * m ∧ RayP px py vx vy x0 y0 x1 y1 n m := by
  unfold smeB
  simp only [Bool.and_eq_true, decide_eq_true_eq]
  constructor
  · rintro ⟨h0, h1, h2, hg, hm⟩
    have hv := thG_vec hg
    have n := thG_near hg
    exact ⟨⟨h0, h1, h2⟩, hg, (mee_iff hv.1 hv.2 n.1 n.2 h0 h1).1 hm⟩
  · rintro ⟨⟨h0, h1, h2⟩, hg, hm⟩
    have hv := thG_vec hg
    have n := thG_near hg
    exact ⟨h0, h1, h2, hg, (mee_iff hv.1 hv.2 n.1 n.2 h0 h1).2 hm⟩
theorem tau_side {l : List T6} (h : tauB l = true) {b : T6} (hb : b ∈ l) : b.2.2.1 - b.1 ≤ 64 ∧ b.2.2.2.1 - b.2.1 ≤ 64 := by
  unfold tauB at h
  rw [Bool.and_eq_true, Bool.not_eq_true', List.any_eq_false] at h
  have k := h.2 b hb
  unfold wdeB at k
  rw [Bool.or_eq_true, decide_eq_true_eq, decide_eq_true_eq] at k
  omega
theorem sus_pt {l : List T6} {m r g x y : Int} {c : Int × Int} {b : T6} {j : Nat} (hS : setB l = true) (ht : tauB l = true) (hr : 0 ≤ r ∧ r ≤ 1024) (hg : 1 ≤ g ∧ g ≤ 32) (hb : b ∈ l) (hx : b.1 ≤ x ∧ x ≤ b.2.2.1) (hy : b.2.1 ≤ y ∧ y ≤ b.2.2.2.1) (hj : j < (mkB b).length) (hc : (-1024 ≤ c.1 ∧ c.1 ≤ 1024) ∧ -1024 ≤ c.2 ∧ c.2 ≤ 1024) (h : sqMe x y (beamV (gi (mkB b) j) m) (low0 r g) (r + g) c = true) : c ∈ susL l m r g := by
  have hr1 : ¬ r = -1 := by omega
  have e : rowU l m r g = swS (dirA l m) r g (dirA l m).length := by unfold rowU; rw [decide_eq_false hr1, ht]; rfl
  have hsd := tau_side ht hb
  have hbx := bxB_iff.1 ((setB_iff.1 hS).2 _ hb)
  obtain ⟨i, hi, rfl⟩ := List.mem_iff_getElem.1 hb
  have hbi : g6 l i = l[i] := g6_eq hi
  have he : dirE l[i] m (gi (mkB l[i]) j) ∈ dirA l m := (dirS_mem (Nat.le_refl _)).2 ⟨i, j, hi, by rw [hbi]; exact hj, by rw [hbi]⟩
  unfold susL
  rw [cptC_mem, (srtC_perm _).mem_iff, e, swS_flat (Nat.le_refl _), List.take_length, List.mem_flatMap]
  refine ⟨_, he, ?_⟩
  obtain ⟨h1, h2, n, m', k1, k2, k3, k4, k5⟩ := sme_ray.1 h
  have hv := (thG_iff.1 h2).2.1
  have hl0 : 0 ≤ low0 r g ∧ low0 r g ≤ r + g ∧ r + g ≤ 2048 := by unfold low0; split <;> omega
  unfold swT dirE
  show c ∈ sptL _ _ _ _ _ _ _ (low0 r g) (r + g)
  have hE := (sptE_0 (x0 := l[i].1) (y0 := l[i].2.1) (x1 := l[i].2.2.1) (y1 := l[i].2.2.2.1) (rctB_iff.2 (by omega)) hv hl0 (by omega)).2
  rw [hE]
  refine (swpL_mem (by omega) (by omega) hv hl0).2 ?_
  unfold swpP mnsB
  simp only [Bool.and_eq_true]
  exact ⟨⟨lnR_iff.2 (by omega), lnR_iff.2 (by omega), lnR_iff.2 (by omega)⟩, sme_ray.2 ⟨by omega, thG_iff.2 ⟨lnP_iff.2 (by omega), hv, lnR_iff.2 (by omega)⟩, mee_box hx hy ⟨n, m', k1, k2, k3, k4, k5⟩⟩⟩
/-- What is learned from plausible readings holds in the building. -/
theorem learn_true {W Hh : Int} {ks xs : List Int} {l : List T6} {sc : List (Int × Int)} {g x y h : Int} (hR : rgtA W Hh ks l sc g = true) (hk : BelP ks xs) (hV : vldB W Hh xs = true) (hB : ∀ i, i < xs.length → 1 ≤ gi xs i ∧ gi xs i ≤ 2) (hc : CovP l x y h) (hP : ∀ e ∈ sc, PlauP W Hh xs x y h g e) : ∃ o, lnO W Hh ks l sc g = some o ∧ BelP o xs := by
  obtain ⟨hVk, hl0, hS, hsB, hg⟩ := rgtA_iff.1 hR
  have hv := vld_iff.1 hV
  obtain ⟨b, hb, hx, hy, j, hj, rfl⟩ := hc
  unfold lnO
  by_cases ht : tauB l = true
  · rw [if_pos ht]
    obtain ⟨q, hq, hqB⟩ := lrnF_true (t := xs) (W := W) (H := Hh) hv.len (l := allL W Hh l sc g) (o := ks) (fun c hc => by
      obtain ⟨-, hin, e, he, hp⟩ := (mem_all hR).1 hc
      refine ⟨hin, ?_⟩
      have hlt := cidx_lt hv.len hin
      have hin2 := inB_iff.1 hin
      have hne : ¬ atI W Hh xs c.1 c.2 = 2 := fun hw => by
        have k1 := (hP e he).1 c ⟨by omega, hw⟩
        have k2 := psC_pt hS hb hx hy hj hp
        rw [k2] at k1; cases k1
      have hb12 := hB _ hlt
      rw [at_in hin] at hne ⊢
      omega) hk
    rw [hq]
    obtain ⟨q2, hq2, hqB2⟩ := lrnW_true (t := xs) (W := W) (H := Hh) hv.len (l := echL l sc g) (o := q) (fun s hs => by
      obtain ⟨e, he, rfl⟩ := List.mem_map.1 hs
      obtain ⟨he1, he2⟩ := List.mem_filter.1 he
      have hr1 : ¬ e.2 = -1 := by simpa using he2
      have hbe := beaB_iff.1 ((scnB_iff.1 hsB).2 e he1)
      obtain ⟨c, hcW, hcm⟩ := (hP e he1).2 hr1
      exact ⟨c, sus_pt hS ht (by omega) hg hb hx hy hj (by have := hcW.1; have := hv.w1; have := hv.h1; omega) hcm, hcW.2⟩) hqB
    exact ⟨q2, hq2, hqB2⟩
  · rw [if_neg ht]
    exact ⟨ks, rfl, hk⟩
open Go.RowKit
/-- A square whose first point lies in a range of distances is met there. -/
theorem sme_en {px py vx vy vd lo hi x0 y0 x1 y1 : Int} (h : 0 ≤ lo ∧ lo ≤ hi ∧ hi ≤ 65536) (hr : rO px py vx vy vd x0 y0 x1 y1 = true) (h1 : lo * enD px py vx vy vd x0 y0 x1 y1 ≤ enN px py vx vy vd x0 y0 x1 y1) (h2 : enN px py vx vy vd x0 y0 x1 y1 ≤ hi * enD px py vx vy vd x0 y0 x1 y1) : smeB px py vx vy vd lo hi x0 y0 x1 y1 = true := by
  obtain ⟨hg, he⟩ := rO_t hr
  have hz := (thG_vec hg).2
  obtain ⟨⟨a1, a2⟩, hin⟩ := (tmE_f hz).1 he
  have hp : 0 < (tmS px py vx vy x0 y0 x1 y1).1.2 := (tmS_ok hz).1
  have k := (tm_in hz hp a1 a2).1 hin
  unfold enN enD at h1 h2
  exact sme_ray.2 ⟨h, hg, _, _, k.1, hp, (lw_le hp).2.1 h1, (lw_le hp).1.1 h2, k.2⟩
variable {W Hh : Int} {xs : List Int} {px py vx vy vd most : Int}
theorem fsZ_min (hH : 1 ≤ Hh) (hW : 1 ≤ W) {c : Int × Int} (h : fsZ W Hh xs px py vx vy vd most = some c) : WallC W Hh xs c ∧ rOC px py vx vy vd c = true ∧ enC px py vx vy vd c ≤ most * edC px py vx vy vd c ∧ ∀ c', WallC W Hh xs c' → rOC px py vx vy vd c' = true → enC px py vx vy vd c' ≤ most * edC px py vx vy vd c' → enC px py vx vy vd c * edC px py vx vy vd c' ≤ enC px py vx vy vd c' * edC px py vx vy vd c := by
  obtain ⟨h1, h2, h3⟩ := fs_some fsD_pos h
  obtain ⟨q1, q2, q3⟩ := fsQ_rO h2
  refine ⟨⟨(borA_mem (by omega) (by omega)).1 h1, q1⟩, q2, q3, fun c' hc hr hm => ?_⟩
  have k := h3 c' ((borA_mem (by omega) (by omega)).2 hc.1) (by
    unfold fsQ
    rw [hc.2, hr, decide_eq_false (by omega)]; rfl)
  rw [fsD_on q2, fsD_on hr] at k
  exact k
theorem fsZ_no (hH : 1 ≤ Hh) (hW : 1 ≤ W) (h : fsZ W Hh xs px py vx vy vd most = none) : ∀ c', WallC W Hh xs c' → rOC px py vx vy vd c' = true → ¬ enC px py vx vy vd c' ≤ most * edC px py vx vy vd c' := fun c' hc hr hm => by
  have k := (fs_none fsD_pos).1 h c' ((borA_mem (by omega) (by omega)).2 hc.1)
  unfold fsQ at k
  rw [hc.2, hr, decide_eq_false (by omega)] at k
  cases k
theorem sqBf_iff {x y : Int} {v : Int × Int × Int} {far : Int} {c : Int × Int} : sqBf x y v far c = true ↔ (0 ≤ far ∧ far ≤ 65536) ∧ rOC x y v.1 v.2.1 v.2.2 c = true ∧ enC x y v.1 v.2.1 v.2.2 c < far * edC x y v.1 v.2.1 v.2.2 c := sbf_en
theorem edC_pos {x y vx vy vd : Int} {c : Int × Int} (h : rOC x y vx vy vd c = true) : 0 < edC x y vx vy vd c ∧ 0 ≤ enC x y vx vy vd c := ⟨(en_bd h).1.2.1, (en_bd h).1.1.1⟩
theorem no_near (hH : 1 ≤ Hh) (hW : 1 ≤ W) {x y : Int} {v : Int × Int × Int} {far : Int} {c : Int × Int} (h : fsZ W Hh xs x y v.1 v.2.1 v.2.2 most = some c) (hf : far * edC x y v.1 v.2.1 v.2.2 c ≤ enC x y v.1 v.2.1 v.2.2 c) (hm : far ≤ most) : ∀ c', WallC W Hh xs c' → sqBf x y v far c' = false := fun c' hc => by
  rw [← Bool.not_eq_true]
  intro hb
  obtain ⟨h0, hr, hlt⟩ := sqBf_iff.1 hb
  obtain ⟨-, hrc, -, hmin⟩ := fsZ_min hH hW h
  have p := edC_pos hrc
  have p' := edC_pos hr
  have k := hmin c' hc hr (by have := Int.mul_le_mul_of_nonneg_right hm (show 0 ≤ edC x y v.1 v.2.1 v.2.2 c' by omega); omega)
  have a1 := Int.mul_lt_mul_of_pos_right hlt p.1
  have a2 := Int.mul_le_mul_of_nonneg_right hf (show 0 ≤ edC x y v.1 v.2.1 v.2.2 c' by omega)
  have e : far * edC x y v.1 v.2.1 v.2.2 c' * edC x y v.1 v.2.1 v.2.2 c = far * edC x y v.1 v.2.1 v.2.2 c * edC x y v.1 v.2.1 v.2.2 c' := by grind
  omega
theorem mea_none (hH : 1 ≤ Hh) (hW : 1 ≤ W) {x y h m g : Int} (hg : 1 ≤ g ∧ g ≤ 32) (hf : fsZ W Hh xs x y (beamV h m).1 (beamV h m).2.1 (beamV h m).2.2 1024 = none) : PlauP W Hh xs x y h g (m, -1) := by
  refine ⟨fun c hc => ?_, fun k => absurd rfl k⟩
  rw [← Bool.not_eq_true]
  intro hb
  have e : farF (-1) g = 1024 - g := if_pos rfl
  have hb' : sqBf x y (beamV h m) (1024 - g) c = true := by rw [← e]; exact hb
  obtain ⟨h0, hr, hlt⟩ := sqBf_iff.1 hb'
  have p := edC_pos hr
  refine fsZ_no hH hW hf c hc hr ?_
  have := Int.mul_le_mul_of_nonneg_right (show 1024 - g ≤ 1024 by omega) (show 0 ≤ edC x y (beamV h m).1 (beamV h m).2.1 (beamV h m).2.2 c by omega)
  omega
theorem mea_some (hH : 1 ≤ Hh) (hW : 1 ≤ W) {x y h m g e z : Int} {c : Int × Int} (hg : 1 ≤ g ∧ g ≤ 32) (hf : fsZ W Hh xs x y (beamV h m).1 (beamV h m).2.1 (beamV h m).2.2 1024 = some c) (he : 1 - g ≤ e ∧ e ≤ g)
    (hz : (0 ≤ enC x y (beamV h m).1 (beamV h m).2.1 (beamV h m).2.2 c / edC x y (beamV h m).1 (beamV h m).2.1 (beamV h m).2.2 c + e ∧ z = enC x y (beamV h m).1 (beamV h m).2.1 (beamV h m).2.2 c / edC x y (beamV h m).1 (beamV h m).2.1 (beamV h m).2.2 c + e) ∨ (enC x y (beamV h m).1 (beamV h m).2.1 (beamV h m).2.2 c / edC x y (beamV h m).1 (beamV h m).2.1 (beamV h m).2.2 c + e < 0 ∧ z = 0)) :
    (z ≤ 1024 → PlauP W Hh xs x y h g (m, z)) ∧ (1024 < z → PlauP W Hh xs x y h g (m, -1)) := by
  obtain ⟨hw, hr, hle, -⟩ := fsZ_min hH hW hf
  have p := edC_pos hr
  have hb := read_bd p.1 p.2 he hz
  have hz0 : 0 ≤ z := by omega
  constructor
  · intro h1
    have hn1 : ¬ z = -1 := by omega
    have e1 : farF ((m, z).2) g = z - g := if_neg hn1
    refine ⟨fun c' hc => ?_, fun _ => ⟨c, hw, ?_⟩⟩
    · rw [e1]
      exact no_near hH hW hf hb.1 (by omega) c' hc
    · show sqMe x y (beamV h m) (low0 z g) (z + g) c = true
      have hl : 0 ≤ low0 z g ∧ low0 z g ≤ z + g ∧ z + g ≤ 65536 := by unfold low0; split <;> omega
      have hl2 : low0 z g * edC x y (beamV h m).1 (beamV h m).2.1 (beamV h m).2.2 c ≤ enC x y (beamV h m).1 (beamV h m).2.1 (beamV h m).2.2 c := by
        unfold low0; split
        · exact hb.1
        · omega
      exact sme_en hl hr hl2 (by have := hb.2; exact Int.le_of_lt this)
  · intro h1
    have e1 : farF ((m, (-1 : Int)).2) g = 1024 - g := if_pos rfl
    refine ⟨fun c' hc => ?_, fun k => absurd rfl k⟩
    rw [e1]
    refine no_near hH hW hf ?_ (by omega) c' hc
    have := Int.mul_le_mul_of_nonneg_right (show 1024 - g ≤ z - g by omega) (show 0 ≤ edC x y (beamV h m).1 (beamV h m).2.1 (beamV h m).2.2 c by omega)
    omega
open Go.RowKit
set_option maxHeartbeats 800000
open Go.RowKit
set_option maxHeartbeats 4000000
open Go.RowKit
open Go.RowKit
open Go.RowKit
def poseB (x y h : Int) : Bool := within x 1048576 && (within y 1048576 && (decide (0 ≤ h) && decide (h < 256)))
theorem poseB_iff {x y h : Int} : poseB x y h = true ↔ (ptB x y = true ∧ btw h 0 255 = true) := by
  unfold poseB ptB; simp only [Bool.and_eq_true, within_iff, btw_iff, decide_eq_true_eq]; omega
theorem bpose_c (H : AHeap) (x : Int) (y : Int) (h : Int) : ACalls Tryz.prog 41 [.agg [.int .i64 x, .int .i64 y, .int .i64 h]] H (fun v H' => v = .bool (poseB x y h) ∧ H' = H) := by
  refine AcT true Tryz.func41 ?_; intro hbel Q hQ
  refine runT ?_
  refine call_v (by kernel_rfl) (bsize_c _ _ _ (by decide)) ?_
  refine runT ?_
  refine gd_split (fun h1 => ?_) (fun h1 => ?_)
  · have h1d := bsT h1
    have g'2 := (jn @h1 @h1d)
    refine runTf g'2 ?_
    refine call_v (by kernel_rfl) (bsize_c _ _ _ (by decide)) ?_
    refine runTf g'2 ?_
    refine gd_split (fun h2 => ?_) (fun h2 => ?_)
    · have h2d := bsT h2
      have g'3 := (jn @h2 (jn @h2d g'2))
      refine runTf g'3 ?_
      refine gd_split (fun h3 => ?_) (fun h3 => ?_)
      · have h3d := bsT h3
        have g'4 := (jn @h3 (jn @h3d g'3))
        refine runTf g'4 ?_
        exact hQ _ _ (end_plain (.inl rfl) hbel (x := .bool (decide (h < 256))) (resT Tryz.results41) rfl ⟨by simp [poseB, h1d, h2d, h3d], rfl⟩)
      · have h3d := bsT h3
        have g'5 := (jn @h3 (jn @h3d g'3))
        refine runTf g'5 ?_
        exact hQ _ _ (end_plain (.inl rfl) hbel (x := .bool false) (resT Tryz.results41) rfl ⟨by simp [poseB, h1d, h2d, h3d], rfl⟩)
    · have h2d := bsT h2
      have g'6 := (jn @h2 (jn @h2d g'2))
      refine runTf g'6 ?_
      exact hQ _ _ (end_plain (.inl rfl) hbel (x := .bool false) (resT Tryz.results41) rfl ⟨by simp [poseB, h1d, h2d], rfl⟩)
  · have h1d := bsT h1
    have g'7 := (jn @h1 @h1d)
    refine runTf g'7 ?_
    exact hQ _ _ (end_plain (.inl rfl) hbel (x := .bool false) (resT Tryz.results41) rfl ⟨by simp [poseB, h1d], rfl⟩)
open Go.RowKit
open Go.RowKit
def bldB (W Hh : Int) (xs : List Int) : Bool := vldB W Hh xs && !(xs.any fun v => v == 0)
theorem bld_c (H : AHeap) (W : Int) (Hh : Int) (pp : AV) (xs : List Int) (hpp : Sl H 1 pp xs.length (ints .u8 xs)) : ACalls Tryz.prog 16 [.agg [.int .i64 W, .int .i64 Hh, pp]] H (fun v H' => v = .bool (bldB W Hh xs) ∧ H' = H) := by
  obtain ⟨bpp, opp, cpp, rfl, hbpp⟩ := hpp
  have hblpp := getElem?_lt hbpp
  have hb0pp := fun l => get_app (l := l) hbpp
  refine AcT true Tryz.func16 ?_; intro hbel Q hQ
  have g'1 := (jn @hbpp @hb0pp)
  refine runTf g'1 ?_
  refine call_v (by kernel_rfl) (rplan_a _ W Hh _ xs (.inr ⟨_, _, _, rfl, by first | exact hb0pp _ | exact hbpp⟩)) ?_
  refine runTf g'1 ?_
  refine cond_split (fun h1 => ?_) (fun h1 => ?_)
  · have h1d := bsT h1
    have hfinD : bldB W Hh xs = false := by unfold bldB; rw [h1d]; rfl
    have g'2 := (jn @h1 (jn @h1d g'1))
    refine runTf g'2 ?_
    exact hQ _ _ (end_plain (.inl rfl) hbel (x := .bool false) (resT Tryz.results16) rfl ⟨by first | (rw [hfinD]; done) | (unfold bldB; simp [h1d, hfinD]; done), rfl⟩)
  · have h1d := bsT h1
    have hV := h1d
    have hVl := vld_iff.1 hV
    have g'3 := (jn @h1 (jn @h1d g'1))
    refine runTf g'3 ?_
    refine go_loop try_mixed (by kernel_rfl) (fun k F Hx => ∃ i : Nat, i + k = xs.length ∧ (∀ j : Nat, j < i → ¬ gi xs j = 0) ∧ F = [(1, .ptr (some (H.length, 0))), (3, .int .i64 ((i : Nat) : Int))] ∧ Hx = H ++ [.cells true 0 [.int .i64 W, .int .i64 Hh, .sl (some (bpp, 0)) xs.length cpp]]) (xs.length) ?_ ?_
    · refine ⟨_, _, _, ⟨0, by omega, fun j h => by omega, rfl, rfl⟩, Abs.byG hbel [] rfl [0] (by decide) ?_⟩
      exact absW
    · rintro k0 F Hx ⟨i, hm0, hal, rfl, rfl⟩ J0 hJ0
      have hl4 := hVl.len
      have hl5 := hVl.pos
      refine runTf g'3 ?_
      refine cond_split (fun h2 => ?_) (fun h2 => ?_)
      · have h2d := bsT h2
        have q3 := ints_get (k := .u8) (xs := xs) (j := i) (by omega)
        have g'4 := (jn @h2 (jn @h2d (jn @q3 g'3)))
        refine runTf g'4 ?_
        refine cond_split (fun h4 => ?_) (fun h4 => ?_)
        · have h4d := bsT h4
          have h4n := bnT h4
          have hfinD : bldB W Hh xs = false := by
            unfold bldB
            have e : xs.any (fun v => v == 0) = true := List.any_eq_true.2 ⟨xs[i]'(by omega), List.getElem_mem _, by rw [← gi_eq (show i < xs.length by omega)]; simpa using h4d⟩
            rw [e]; simp
          have g'5 := (jn @h4 (jn @h4n (jn @int_bne (jn @int_beq g'4))))
          refine runTf g'5 ?_
          exact hQ _ _ (end_plain (.inl rfl) hbel (x := .bool false) (resT Tryz.results16) rfl ⟨by first | (rw [hfinD]; done) | (unfold bldB; simp [h1d, h2d, h4d, hfinD]; done), rfl⟩)
        · have h4d := bsT h4
          have h4n := bnT h4
          have hnz : ¬ gi xs i = 0 := by simpa using h4d
          have g'6 := (jn @h4 (jn @h4n (jn @int_bne (jn @int_beq g'4))))
          refine runTf g'6 ?_
          refine hJ0 _ _ ⟨k0 - 1, by omega, _, _, _, ⟨i + 1, by omega, fun j hj => by
                      rcases Nat.lt_or_ge j i with hji | hji
                      · exact hal j hji
                      · rw [show j = i by omega]; exact hnz, rfl, rfl⟩, Abs.byG hbel [] rfl [0] (by decide) ?_⟩
          exact absW
      · have h2d := bsT h2
        have hfinD : bldB W Hh xs = true := by
          unfold bldB
          have e : xs.any (fun v => v == 0) = false := List.any_eq_false.2 fun v hv => by
            obtain ⟨j, hj, rfl⟩ := List.mem_iff_getElem.1 hv
            rw [← gi_eq hj]; simpa using hal j (by omega)
          rw [e, hV]; rfl
        have g'7 := (jn @h2 (jn @h2d g'3))
        refine runTf g'7 ?_
        exact hQ _ _ (end_plain (.inl rfl) hbel (x := .bool true) (resT Tryz.results16) rfl ⟨by first | (rw [hfinD]; done) | (unfold bldB; simp [h1d, h2d, hfinD]; done), rfl⟩)
open Go.RowKit
/-- A point is in a valid plan; a pose is. -/
def inpB (W Hh : Int) (xs : List Int) (x y : Int) : Bool := vldB W Hh xs && (decide (0 ≤ x) && (decide (x ≤ 64 * W) && (decide (0 ≤ y) && decide (y ≤ 64 * Hh))))
def gooB (W Hh : Int) (xs : List Int) (x y h : Int) : Bool := inpB W Hh xs x y && poseB x y h
theorem inpB_iff {W Hh : Int} {xs : List Int} {x y : Int} : inpB W Hh xs x y = true ↔ vldB W Hh xs = true ∧ (0 ≤ x ∧ x ≤ 64 * W) ∧ 0 ≤ y ∧ y ≤ 64 * Hh := by
  unfold inpB; simp only [Bool.and_eq_true, decide_eq_true_eq]
  exact ⟨fun ⟨a, b, c, d, e⟩ => ⟨a, ⟨b, c⟩, d, e⟩, fun ⟨a, ⟨b, c⟩, d, e⟩ => ⟨a, b, c, d, e⟩⟩
theorem clgb {n lo hi : Int} (h : lo ≤ hi) : lo ≤ clgI n lo hi ∧ clgI n lo hi ≤ hi := by unfold clgI; split <;> split at * <;> omega
/-- The first wall on a beam; its distance. -/
def fsB (W Hh : Int) (xs : List Int) (x y h m : Int) : Option (Int × Int) := fsZ W Hh xs x y (beamV h m).1 (beamV h m).2.1 (beamV h m).2.2 1024
def fbN (W Hh : Int) (xs : List Int) (x y h m : Int) : Int := fsN x y (beamV h m).1 (beamV h m).2.1 (beamV h m).2.2 (fsB W Hh xs x y h m)
def fbD (W Hh : Int) (xs : List Int) (x y h m : Int) : Int := fsDn x y (beamV h m).1 (beamV h m).2.1 (beamV h m).2.2 (fsB W Hh xs x y h m)
theorem fb_bd {W Hh : Int} {xs : List Int} {x y h m : Int} {c : Int × Int} (hb : fsB W Hh xs x y h m = some c) : (0 ≤ fbN W Hh xs x y h m ∧ fbN W Hh xs x y h m ≤ 562949953421312) ∧ 0 < fbD W Hh xs x y h m ∧ fbD W Hh xs x y h m ≤ 67108864 := by
  unfold fbN fbD
  rw [hb]
  exact fsA_bd hb
/-- A reading. -/
def zzI (W Hh : Int) (xs : List Int) (x y h g m e : Int) : Int := if 0 < fbN W Hh xs x y h m / fbD W Hh xs x y h m + clgI e (1 - g) g then fbN W Hh xs x y h m / fbD W Hh xs x y h m + clgI e (1 - g) g else 0
def meaZ (W Hh : Int) (xs : List Int) (x y h g m e : Int) : Int := if (fsB W Hh xs x y h m).isSome = true then (if 1024 < zzI W Hh xs x y h g m e then -1 else zzI W Hh xs x y h g m e) else -1
def mrkB (m : Int) : Bool := decide (0 ≤ m) && decide (m ≤ 255)
def meaE (m : Int) : Int := if mrkB m = true then 0 else 2
def meaV (W Hh : Int) (xs : List Int) (x y h g m e : Int) : Int := if mrkB m = true then meaZ W Hh xs x y h g m e else 0
theorem mea_plau {W Hh : Int} {xs : List Int} {x y h g m e : Int} (hH : 1 ≤ Hh) (hW : 1 ≤ W) (hg : 1 ≤ g ∧ g ≤ 32) : PlauP W Hh xs x y h g (m, meaZ W Hh xs x y h g m e) ∧ -1 ≤ meaZ W Hh xs x y h g m e ∧ meaZ W Hh xs x y h g m e ≤ 1024 := by
  cases hf : fsB W Hh xs x y h m with
  | none =>
    have ez : meaZ W Hh xs x y h g m e = -1 := by unfold meaZ; rw [hf]; rfl
    rw [ez]
    exact ⟨mea_none hH hW hg hf, by omega, by omega⟩
  | some c =>
    have hb := fb_bd hf
    have hr := (fsZ_min hH hW hf).2.1
    have eN : fbN W Hh xs x y h m = enC x y (beamV h m).1 (beamV h m).2.1 (beamV h m).2.2 c := by unfold fbN; rw [hf]; show (fsD _ _ _ _ _ c).1 = _; rw [fsD_on hr]
    have eD : fbD W Hh xs x y h m = edC x y (beamV h m).1 (beamV h m).2.1 (beamV h m).2.2 c := by unfold fbD; rw [hf]; show (fsD _ _ _ _ _ c).2 = _; rw [fsD_on hr]
    have hc := clgb (n := e) (lo := 1 - g) (hi := g) (by omega)
    have k := mea_some (z := zzI W Hh xs x y h g m e) hH hW hg hf hc (by
      rw [← eN, ← eD]
      unfold zzI
      split <;> omega)
    have hz0 : 0 ≤ zzI W Hh xs x y h g m e := by unfold zzI; split <;> omega
    unfold meaZ
    rw [hf, if_pos (show (some c).isSome = true from rfl)]
    split
    · rename_i h1; exact ⟨k.2 h1, by omega, by omega⟩
    · rename_i h1; exact ⟨k.1 (by omega), by omega, by omega⟩
/-- The beams of a scan. -/
def swpB (W Hh : Int) (xs : List Int) (x y h g : Int) (mks ers : List Int) : Nat → List (Int × Int)
  | 0 => []
  | i + 1 => swpB W Hh xs x y h g mks ers i ++ [(gi mks i, meaZ W Hh xs x y h g (gi mks i) (gi ers i))]
def swpE (mks : List Int) : Int := if 32 < mks.length then 6 else if mks.all mrkB = true then 0 else 2
def swpL2 (W Hh : Int) (xs : List Int) (x y h g : Int) (mks ers : List Int) : List (Int × Int) := if swpE mks = 0 then swpB W Hh xs x y h g mks ers mks.length else []
theorem gi_out {l : List Int} {i : Nat} (h : l.length ≤ i) : gi l i = 0 := by unfold gi; rw [List.getD_eq_getElem?_getD, List.getElem?_eq_none h]; rfl
theorem swpB_len {W Hh : Int} {xs : List Int} {x y h g : Int} {mks ers : List Int} : ∀ i : Nat, (swpB W Hh xs x y h g mks ers i).length = i
  | 0 => rfl
  | i + 1 => by rw [swpB, List.length_append, swpB_len i]; rfl
theorem swpE_6 {mks : List Int} (h : 32 < mks.length) : swpE mks = 6 := if_pos h
theorem swpE_2 {mks : List Int} (h : ¬ 32 < mks.length) {i : Nat} (hi : i < mks.length) (k : mrkB (gi mks i) = false) : swpE mks = 2 := by
  unfold swpE
  rw [if_neg h, if_neg]
  intro ha
  rw [gi_eq hi, List.all_eq_true.1 ha _ (List.getElem_mem hi)] at k
  cases k
theorem swpE_0 {mks : List Int} (h : ¬ 32 < mks.length) (k : ∀ j : Nat, j < mks.length → mrkB (gi mks j) = true) : swpE mks = 0 := by
  unfold swpE
  rw [if_neg h, if_pos]
  refine List.all_eq_true.2 fun e he => ?_
  obtain ⟨j, hj, rfl⟩ := List.mem_iff_getElem.1 he
  rw [← gi_eq hj]; exact k j hj
theorem swpL2_n {W Hh : Int} {xs : List Int} {x y h g : Int} {mks ers : List Int} (k : ¬ swpE mks = 0) : swpL2 W Hh xs x y h g mks ers = [] := if_neg k
theorem swpL2_y {W Hh : Int} {xs : List Int} {x y h g : Int} {mks ers : List Int} (k : swpE mks = 0) : swpL2 W Hh xs x y h g mks ers = swpB W Hh xs x y h g mks ers mks.length := if_pos k
theorem swpB_mem {W Hh : Int} {xs : List Int} {x y h g : Int} {mks ers : List Int} {e : Int × Int} : ∀ {i : Nat}, e ∈ swpB W Hh xs x y h g mks ers i → ∃ j : Nat, j < i ∧ e = (gi mks j, meaZ W Hh xs x y h g (gi mks j) (gi ers j))
  | 0, h => by cases h
  | i + 1, hm => by
    rw [swpB, List.mem_append, List.mem_singleton] at hm
    rcases hm with hm | hm
    · obtain ⟨j, h1, h2⟩ := swpB_mem hm
      exact ⟨j, by omega, h2⟩
    · exact ⟨i, by omega, hm⟩
theorem swpL2_ok {W Hh : Int} {xs : List Int} {x y h g : Int} {mks ers : List Int} (hH : 1 ≤ Hh) (hW : 1 ≤ W) (hg : 1 ≤ g ∧ g ≤ 32) : scnB (swpL2 W Hh xs x y h g mks ers) = true ∧ ∀ e ∈ swpL2 W Hh xs x y h g mks ers, PlauP W Hh xs x y h g e := by
  by_cases k : swpE mks = 0
  · rw [swpL2_y k]
    have hl : ¬ 32 < mks.length := fun q => by rw [swpE_6 q] at k; exact absurd k (by decide)
    have ha : mks.all mrkB = true := by
      rw [← Bool.not_eq_false]; intro q
      unfold swpE at k
      rw [if_neg hl, if_neg (by rw [q]; decide)] at k
      exact absurd k (by decide)
    refine ⟨scnB_iff.2 ⟨by rw [swpB_len]; omega, fun e he => ?_⟩, fun e he => ?_⟩
    · obtain ⟨j, hj, rfl⟩ := swpB_mem he
      have q := List.all_eq_true.1 ha _ (List.getElem_mem hj)
      rw [← gi_eq hj] at q
      unfold mrkB at q
      rw [Bool.and_eq_true, decide_eq_true_eq, decide_eq_true_eq] at q
      have := (mea_plau (xs := xs) (x := x) (y := y) (h := h) (m := gi mks j) (e := gi ers j) hH hW hg).2
      exact beaB_iff.2 (by omega)
    · obtain ⟨j, hj, rfl⟩ := swpB_mem he
      exact (mea_plau hH hW hg).1
  · rw [swpL2_n k]
    exact ⟨by decide, fun e he => by cases he⟩
/-- The box around a pose. -/
def aroN (ax ay : Int) : Int := ((((ax + 3 * ay) % 3).toNat : Nat) : Int)
def aroB (ax ay ah : Int) (z : Nat) : T6 := (ax - ((z % 9 : Nat) : Int), ay - ((z / 9 % 9 : Nat) : Int), ax + ((z / 81 % 9 : Nat) : Int), ay + aroN ax ay, (((ah - aroN ax ay) % 256).toNat : Nat), 2 * aroN ax ay + 1)
/-- What is known at the start. -/
def knsL (xs : List Int) (c : Int) : Nat → List Int
  | 0 => List.replicate xs.length 0
  | i + 1 => if ((((IntKind.i64.wrap (c + ((i : Nat) : Int)) % 3).toNat : Nat) : Int) == 0) = true then (knsL xs c i).set i (gi xs i) else knsL xs c i
theorem gi_rep {n i : Nat} : gi (List.replicate n 0) i = 0 := by
  unfold gi
  rw [List.getD_eq_getElem?_getD, List.getElem?_replicate]
  split <;> rfl
theorem knsL_bel (xs : List Int) (c : Int) : ∀ i : Nat, i ≤ xs.length → BelP (knsL xs c i) xs
  | 0, _ => ⟨List.length_replicate, fun i => .inl gi_rep⟩
  | i + 1, hi => by
    have ih := knsL_bel xs c i (by omega)
    unfold knsL
    split
    · refine ⟨by rw [List.length_set]; exact ih.1, fun j => ?_⟩
      rw [gi_setL (by rw [ih.1]; omega)]
      split
      · rename_i e; subst e; exact .inr rfl
      · exact ih.2 j
    · exact ih
theorem knsL_t {xs : List Int} {c : Int} {i : Nat} (h : ((((IntKind.i64.wrap (c + ((i : Nat) : Int)) % 3).toNat : Nat) : Int) == 0) = true) : knsL xs c (i + 1) = (knsL xs c i).set i (gi xs i) := if_pos h
theorem knsL_f {xs : List Int} {c : Int} {i : Nat} (h : ((((IntKind.i64.wrap (c + ((i : Nat) : Int)) % 3).toNat : Nat) : Int) == 0) = false) : knsL xs c (i + 1) = knsL xs c i := if_neg (by rw [h]; decide)
theorem aro_ok {ax ay ah : Int} {z : Nat} (hx : 0 ≤ ax ∧ ax ≤ 4096) (hy : 0 ≤ ay ∧ ay ≤ 4096) (hh : 0 ≤ ah ∧ ah ≤ 255) : setB [aroB ax ay ah z] = true ∧ CovP [aroB ax ay ah z] ax ay ah := by
  have hn : 0 ≤ aroN ax ay ∧ aroN ax ay ≤ 2 := by unfold aroN; omega
  have hb : boxB (aroB ax ay ah z) = true := by
    unfold boxB aroB
    simp only
    exact bxB_iff.2 ⟨by omega, by omega, arcB_iff.2 (by omega)⟩
  refine ⟨setB_one hb, _, List.mem_singleton.2 rfl, by unfold aroB; simp only; omega, by unfold aroB; simp only; omega, (aroN ax ay).toNat, ?_, ?_⟩
  · have e : (mkB (aroB ax ay ah z)).length = (aroB ax ay ah z).2.2.2.2.2.toNat := mrkL_len _ _
    rw [e]; unfold aroB; simp only; omega
  · have e : (mkB (aroB ax ay ah z)).length = (aroB ax ay ah z).2.2.2.2.2.toNat := mrkL_len _ _
    rw [gi_mkB (by rw [e]; unfold aroB; simp only; omega)]
    unfold aroB; simp only; omega
/-- What is learned holds in the building. -/
theorem ktrue_main {W Hh : Int} {xs : List Int} {ax ay ah g eX : Int} {z : Nat} {mks ers : List Int} (hB : bldB W Hh xs = true) (hG : gooB W Hh xs ax ay ah = true) (h0 : ∀ z ∈ xs, 0 ≤ z) (hg : 1 ≤ g ∧ g ≤ 32) :
    lnE W Hh (knsL xs eX xs.length) [aroB ax ay ah z] (swpL2 W Hh xs ax ay ah g mks ers) g = 0 ∧ BelP (lnX W Hh (knsL xs eX xs.length) [aroB ax ay ah z] (swpL2 W Hh xs ax ay ah g mks ers) g) xs := by
  unfold gooB at hG
  rw [Bool.and_eq_true, inpB_iff] at hG
  obtain ⟨⟨hV, hx, hy⟩, hP⟩ := hG
  have hv := vld_iff.1 hV
  have hbt := btw_iff.1 (poseB_iff.1 hP).2
  have hk := knsL_bel xs eX xs.length (Nat.le_refl _)
  have hw1 := hv.w1
  have hh1 := hv.h1
  obtain ⟨hS, hC⟩ := aro_ok (ax := ax) (ay := ay) (ah := ah) (z := z) (by omega) (by omega) (by omega)
  obtain ⟨hsc, hP⟩ := swpL2_ok (xs := xs) (x := ax) (y := ay) (h := ah) (g := g) (mks := mks) (ers := ers) hv.h0 hv.w0 hg
  have hR : rgtA W Hh (knsL xs eX xs.length) [aroB ax ay ah z] (swpL2 W Hh xs ax ay ah g mks ers) g = true := rgtA_iff.2 ⟨bel_vld hk hV, by simp, hS, hsc, hg⟩
  have hB2 : ∀ i, i < xs.length → 1 ≤ gi xs i ∧ gi xs i ≤ 2 := fun i hi => by
    unfold bldB at hB
    rw [Bool.and_eq_true, Bool.not_eq_true', List.any_eq_false] at hB
    have h1 := hB.2 _ (List.getElem_mem hi)
    have h2 := h0 _ (List.getElem_mem hi)
    have h3 := hv.le _ (List.getElem_mem hi)
    rw [gi_eq hi]
    have : ¬ xs[i] = 0 := by simpa using h1
    omega
  obtain ⟨o, ho, hbo⟩ := learn_true hR hk hV hB2 hC hP
  obtain ⟨e1, e2, -⟩ := ln_0 hR ho
  exact ⟨e1, by rw [e2]; exact hbo⟩
theorem rem_nat9 (a : Nat) : Int.tmod (a : Int) 9 = ((a % 9 : Nat) : Int) := rfl
theorem quo_nat9 (a : Nat) : Int.tdiv (a : Int) 9 = ((a / 9 : Nat) : Int) := rfl
theorem quo_nat81 (a : Nat) : Int.tdiv (a : Int) 81 = ((a / 81 : Nat) : Int) := rfl
open Go.RowKit
open Go.RowKit
theorem renterC_c (H : AHeap) (px py vx vy vd cx cy : Int) : ACalls Tryz.prog 242 [.agg [.int .i64 px, .int .i64 py], .agg [.int .i64 vx, .int .i64 vy, .int .i64 vd], .agg [.int .i64 (cx * 64), .int .i64 (cy * 64), .int .i64 (cx * 64 + 64), .int .i64 (cy * 64 + 64)]] H (fun v H' => v = .tup [.agg [.int .i64 (mkV (rOC px py vx vy vd (cx, cy)) (enC px py vx vy vd (cx, cy))), .int .i64 (mkV (rOC px py vx vy vd (cx, cy)) (edC px py vx vy vd (cx, cy)))], .bool (rOC px py vx vy vd (cx, cy))] ∧ H' = H) := renter_c H px py vx vy vd (cx * 64) (cy * 64) (cx * 64 + 64) (cy * 64 + 64)
theorem rless_c (H : AHeap) (a : Int) (b : Int) (c : Int) (d : Int) (ha : 0 ≤ a ∧ a ≤ 562949953421312) (hb : 0 < b ∧ b ≤ 67108864) (hc : 0 ≤ c ∧ c ≤ 562949953421312) (hd : 0 < d ∧ d ≤ 67108864) : ACalls Tryz.prog 244 [.agg [.int .i64 a, .int .i64 b], .agg [.int .i64 c, .int .i64 d]] H (fun v H' => v = .bool (decide (a * d < c * b)) ∧ H' = H) := by
  have e1 : Int.tdiv a b = a / b := Int.tdiv_eq_ediv_of_nonneg ha.1
  have e2 : Int.tdiv c d = c / d := Int.tdiv_eq_ediv_of_nonneg hc.1
  have e3 : Int.tmod a b = a % b := Int.tmod_eq_emod_of_nonneg ha.1
  have e4 : Int.tmod c d = c % d := Int.tmod_eq_emod_of_nonneg hc.1
  have b1 := Int.emod_nonneg a (show b ≠ 0 by omega)
  have b2 := Int.emod_lt_of_pos a hb.1
  have b3 := Int.emod_nonneg c (show d ≠ 0 by omega)
  have b4 := Int.emod_lt_of_pos c hd.1
  have q1 := Int.ediv_nonneg ha.1 (show 0 ≤ b by omega)
  have q2 := Int.ediv_nonneg hc.1 (show 0 ≤ d by omega)
  have q3 : a / b ≤ a := Int.ediv_le_self b ha.1
  have q4 : c / d ≤ c := Int.ediv_le_self d hc.1
  have m1 := mul_bd (a := a % b) (b := d) (A := 67108864) (B := 67108864) (by omega) (by omega)
  have m2 := mul_bd (a := c % d) (b := b) (A := 67108864) (B := 67108864) (by omega) (by omega)
  have hl := less_iff ha.1 hb.1 hc.1 hd.1
  refine AcT true Tryz.func244 ?_; intro hbel Q hQ
  have g'1 := (jn @e1 (jn @e2 (jn @e3 @e4)))
  refine runTf g'1 ?_
  refine cond_split (fun h1 => ?_) (fun h1 => ?_)
  · have h1d := bsT h1
    have h1n := bnT h1
    have hfinL := hl
    rw [if_pos (by first | exact h1d | simpa using h1d)] at hfinL
    have g'2 := (jn @h1 (jn @h1n (jn @int_bne (jn @int_beq g'1))))
    refine runTf g'2 ?_
    exact hQ _ _ (end_plain (.inl rfl) hbel (x := .bool (decide ((a / b) < (c / d)))) (resT Tryz.results244) rfl ⟨congrArg AV.bool (decide_eq_decide.2 hfinL), rfl⟩)
  · have h1d := bsT h1
    have h1n := bnT h1
    have hfinL := hl
    rw [if_neg (fun k => k (by first | exact h1d | simpa using h1d))] at hfinL
    have g'3 := (jn @h1 (jn @h1n (jn @int_bne (jn @int_beq g'1))))
    refine runTf g'3 ?_
    exact hQ _ _ (end_plain (.inl rfl) hbel (x := .bool (decide (((a % b) * d) < ((c % d) * b)))) (resT Tryz.results244) rfl ⟨congrArg AV.bool (decide_eq_decide.2 hfinL), rfl⟩)
theorem rin_c (H : AHeap) (W : Int) (Hh : Int) (pp : AV) (xs : List Int) (x : Int) (y : Int) (hpp : Sl H 1 pp xs.length (ints .u8 xs)) : ACalls Tryz.prog 76 [.agg [.int .i64 W, .int .i64 Hh, pp], .agg [.int .i64 x, .int .i64 y]] H (fun v H' => v = .bool (inpB W Hh xs x y) ∧ H' = H) := by
  obtain ⟨bpp, opp, cpp, rfl, hbpp⟩ := hpp
  have hblpp := getElem?_lt hbpp
  have hb0pp := fun l => get_app (l := l) hbpp
  refine AcT true Tryz.func76 ?_; intro hbel Q hQ
  have g'4 := (jn @hbpp @hb0pp)
  refine runTf g'4 ?_
  refine call_v (by kernel_rfl) (rplan_a _ W Hh _ xs (.inr ⟨_, _, _, rfl, by first | exact hb0pp _ | exact hbpp⟩)) ?_
  refine runTf g'4 ?_
  refine gd_split (fun h1 => ?_) (fun h1 => ?_)
  · have h1d := bsT h1
    have hVV := vld_iff.1 h1d
    have hw1 := hVV.w1
    have hw0 := hVV.w0
    have hh1 := hVV.h1
    have hh0 := hVV.h0
    have g'5 := (jn @h1 (jn @h1d g'4))
    refine runTf g'5 ?_
    refine gd_split (fun h2 => ?_) (fun h2 => ?_)
    · have h2d := bsT h2
      have g'6 := (jn @h2 (jn @h2d g'5))
      refine runTf g'6 ?_
      refine gd_split (fun h3 => ?_) (fun h3 => ?_)
      · have h3d := bsT h3
        have g'7 := (jn @h3 (jn @h3d g'6))
        refine runTf g'7 ?_
        refine gd_split (fun h4 => ?_) (fun h4 => ?_)
        · have h4d := bsT h4
          have g'8 := (jn @h4 (jn @h4d g'7))
          refine runTf g'8 ?_
          exact hQ _ _ (end_plain (.inl rfl) hbel (x := .bool (decide (y ≤ (64 * Hh)))) (resT Tryz.results76) rfl ⟨by first | (simp [inpB, h1d, h2d, h3d, h4d]; done) | (simp [inpB, h1d, h2d, h3d, h4d]; omega), rfl⟩)
        · have h4d := bsT h4
          have g'9 := (jn @h4 (jn @h4d g'7))
          refine runTf g'9 ?_
          exact hQ _ _ (end_plain (.inl rfl) hbel (x := .bool false) (resT Tryz.results76) rfl ⟨by first | (simp [inpB, h1d, h2d, h3d, h4d]; done) | (simp [inpB, h1d, h2d, h3d, h4d]; omega), rfl⟩)
      · have h3d := bsT h3
        have g'10 := (jn @h3 (jn @h3d g'6))
        refine runTf g'10 ?_
        exact hQ _ _ (end_plain (.inl rfl) hbel (x := .bool false) (resT Tryz.results76) rfl ⟨by first | (simp [inpB, h1d, h2d, h3d]; done) | (simp [inpB, h1d, h2d, h3d]; omega), rfl⟩)
    · have h2d := bsT h2
      have g'11 := (jn @h2 (jn @h2d g'5))
      refine runTf g'11 ?_
      exact hQ _ _ (end_plain (.inl rfl) hbel (x := .bool false) (resT Tryz.results76) rfl ⟨by first | (simp [inpB, h1d, h2d]; done) | (simp [inpB, h1d, h2d]; omega), rfl⟩)
  · have h1d := bsT h1
    have g'12 := (jn @h1 (jn @h1d g'4))
    refine runTf g'12 ?_
    exact hQ _ _ (end_plain (.inl rfl) hbel (x := .bool false) (resT Tryz.results76) rfl ⟨by first | (simp [inpB, h1d]; done) | (simp [inpB, h1d]; omega), rfl⟩)
theorem rgood_c (H : AHeap) (W : Int) (Hh : Int) (pp : AV) (xs : List Int) (x : Int) (y : Int) (h : Int) (hpp : Sl H 1 pp xs.length (ints .u8 xs)) : ACalls Tryz.prog 17 [.agg [.int .i64 W, .int .i64 Hh, pp], .agg [.int .i64 x, .int .i64 y, .int .i64 h]] H (fun v H' => v = .bool (gooB W Hh xs x y h) ∧ H' = H) := by
  obtain ⟨bpp, opp, cpp, rfl, hbpp⟩ := hpp
  have hblpp := getElem?_lt hbpp
  have hb0pp := fun l => get_app (l := l) hbpp
  refine AcT true Tryz.func17 ?_; intro hbel Q hQ
  have g'13 := (jn @hbpp @hb0pp)
  refine runTf g'13 ?_
  refine call_v (by kernel_rfl) (rin_c _ W Hh _ xs x y ⟨_, _, _, rfl, by first | exact hb0pp _ | exact hbpp⟩) ?_
  refine runTf g'13 ?_
  refine gd_split (fun h1 => ?_) (fun h1 => ?_)
  · have h1d := bsT h1
    have g'14 := (jn @h1 (jn @h1d g'13))
    refine runTf g'14 ?_
    refine call_v (by kernel_rfl) (bpose_c _ x y h) ?_
    refine runTf g'14 ?_
    exact hQ _ _ (end_plain (.inl rfl) hbel (x := .bool (poseB x y h)) (resT Tryz.results17) rfl ⟨by first | (simp [gooB, h1d]; done) | (unfold gooB; simp [h1d]; done), rfl⟩)
  · have h1d := bsT h1
    have g'15 := (jn @h1 (jn @h1d g'13))
    refine runTf g'15 ?_
    exact hQ _ _ (end_plain (.inl rfl) hbel (x := .bool false) (resT Tryz.results17) rfl ⟨by first | (simp [gooB, h1d]; done) | (unfold gooB; simp [h1d]; done), rfl⟩)
theorem rfirst_c (H : AHeap) (W : Int) (Hh : Int) (pp : AV) (xs : List Int) (px : Int) (py : Int) (vx : Int) (vy : Int) (vd : Int) (most : Int) (hpp : Sl H 1 pp xs.length (ints .u8 xs)) (hi : inpB W Hh xs px py = true) (hv : vecB vx vy vd = true) (hm : 0 ≤ most ∧ most ≤ 2048) : ACalls Tryz.prog 162 [.agg [.int .i64 W, .int .i64 Hh, pp], .agg [.int .i64 px, .int .i64 py], .agg [.int .i64 vx, .int .i64 vy, .int .i64 vd], .int .i64 most] H (fun v H' => v = .tup [.agg [.int .i64 (fsN px py vx vy vd (fsZ W Hh xs px py vx vy vd most)), .int .i64 (fsDn px py vx vy vd (fsZ W Hh xs px py vx vy vd most))], .agg [.int .i64 (oX (fsZ W Hh xs px py vx vy vd most)), .int .i64 (oY (fsZ W Hh xs px py vx vy vd most))], .bool ((fsZ W Hh xs px py vx vy vd most).isSome)] ∧ H' = H) := by
  obtain ⟨bpp, opp, cpp, rfl, hbpp⟩ := hpp
  have hblpp := getElem?_lt hbpp
  have hb0pp := fun l => get_app (l := l) hbpp
  have hma := decide_eq_false (show ¬ most < 0 by omega)
  have hmb := decide_eq_false (show ¬ 2048 < most by omega)
  have hV := (inpB_iff.1 hi).1
  have hVV := vld_iff.1 hV
  have hw1 := hVV.w1
  have hw0 := hVV.w0
  have hh1 := hVV.h1
  have hh0 := hVV.h0
  (refine ACalls_pieces Tryz.func162 _ rfl (Nat.le_of_ble_eq_true (by kernel_rfl)) rfl ?_; intro hbel Q hQ hQ' c hc; unfold Tryz.f162 at hc; simp only [Option.some.injEq] at hc; subst hc; clear hQ')
  refine AW_seqQ fun Q1 hn1 hr1 he1 => ?_
  have hQ1 := fun F H' h => hr1 F H' (hQ F H' h)
  refine AW_fin true try_mixed (by kernel_rfl) ?_
  have g'16 := (jn @hbpp (jn @hb0pp (jn @hi (jn @hv (jn @hma @hmb)))))
  refine runTf g'16 ?_
  refine hn1 _ _ ?_
  refine AW_seqQ fun Q2 hn2 hr2 he2 => ?_
  have hQ2 := fun F H' h => hr2 F H' (hQ F H' h)
  refine AW_fin true try_mixed (by kernel_rfl) ?_
  refine runTf g'16 ?_
  refine hn2 _ _ ?_
  refine AW_seqQ fun Q3 hn3 hr3 he3 => ?_
  have hQ3 := fun F H' h => hr3 F H' (hQ F H' h)
  refine AW_fin true try_mixed (by kernel_rfl) ?_
  refine runTf g'16 ?_
  refine hn3 _ _ ?_
  refine AW_seqQ fun Q4 hn4 hr4 he4 => ?_
  have hQ4 := fun F H' h => hr4 F H' (hQ F H' h)
  refine AW_fin true try_mixed (by kernel_rfl) ?_
  refine runTf g'16 ?_
  refine hn4 _ _ ?_
  refine AW_seqQ fun Q5 hn5 hr5 he5 => ?_
  have hQ5 := fun F H' h => hr5 F H' (hQ F H' h)
  refine AW_seqQ fun Q6 hn6 hr6 he6 => ?_
  have hQ6 := fun F H' h => hr6 F H' (hQ5 F H' h)
  refine AW_fin true try_mixed (by kernel_rfl) ?_
  refine runTf g'16 ?_
  refine call_v (by kernel_rfl) (rin_c _ W Hh _ xs px py ⟨_, _, _, rfl, by first | exact hb0pp _ | exact hbpp⟩) ?_
  refine runTf g'16 ?_
  refine call_v (by kernel_rfl) (bvec_c _ vx vy vd) ?_
  refine runTf g'16 ?_
  refine hn6 _ _ ?_
  refine AW_cond false (by rfl) (fun h => by cases h) (fun h => ?_)
  refine AW_fin true try_mixed (by kernel_rfl) ?_
  refine runTf g'16 ?_
  refine hn5 _ _ ?_
  refine AW_seqQ fun Q7 hn7 hr7 he7 => ?_
  have hQ7 := fun F H' h => hr7 F H' (hQ F H' h)
  refine AW_seqQ fun Q8 hn8 hr8 he8 => ?_
  have hQ8 := fun F H' h => hr8 F H' (hQ7 F H' h)
  refine AW_fin true try_mixed (by kernel_rfl) ?_
  refine runTf g'16 ?_
  refine hn8 _ _ ?_
  refine AW_blockQ fun Q9 hn9 hr9 he9 hb9 => ?_
  have hQ9 := fun F H' h => hr9 F H' (hQ7 F H' h)
  refine AW_loopA (fun k F Hx => ∃ n : Nat, n + k = (Hh + 2).toNat ∧ F = [(3, .int .i64 most), (4, .ptr (some (H.length, 0))), (5, .ptr (some (H.length + 1, 0))), (6, .ptr (some (H.length + 2, 0))), (8, .ptr (some (H.length + 3, 0))), (9, .ptr (some (H.length + 4, 0))), (11, .ptr (some (H.length + 5, 0))), (12, .ptr (some (H.length + 6, 0))), (13, .bool ((fsA W Hh xs px py vx vy vd most n 0).isSome)), (14, .int .i64 ((-1) + ((n : Nat) : Int)))] ∧ Hx = H ++ [.cells true 0 [.int .i64 W, .int .i64 Hh, .sl (some (bpp, 0)) xs.length cpp], .cells true 0 [.int .i64 px, .int .i64 py], .cells true 0 [.int .i64 vx, .int .i64 vy, .int .i64 vd], .cells true 0 [.int .i64 0, .int .i64 0], .cells true 0 [.int .i64 0, .int .i64 0], .cells true 0 [.int .i64 (fsN px py vx vy vd (fsA W Hh xs px py vx vy vd most n 0)), .int .i64 (fsDn px py vx vy vd (fsA W Hh xs px py vx vy vd most n 0))], .cells true 0 [.int .i64 (oX (fsA W Hh xs px py vx vy vd most n 0)), .int .i64 (oY (fsA W Hh xs px py vx vy vd most n 0))]]) ((Hh + 2).toNat) ?_ ?_
  · refine ⟨_, _, _, ⟨0, by omega, rfl, rfl⟩, Abs.byG hbel [] rfl [0, 1, 2, 3, 4, 5, 6] (by decide) ?_⟩
    exact absWf (jn @fsA_0 (jn @fsN.eq_1 (jn @fsDn.eq_1 (jn @oX.eq_1 (jn @oY.eq_1 (jn @Option.isSome_none.{0} (jn @Int.natCast_zero @Int.add_zero)))))))
  · rintro k0 F Hx ⟨n, hm0, rfl, rfl⟩ Q10 hJ0 hr10 he10
    have hQ10 := fun F H' h => hr10 F H' (hQ9 F H' h)
    refine AW_seqQ fun Q11 hn11 hr11 he11 => ?_
    have hQ11 := fun F H' h => hr11 F H' (hQ10 F H' h)
    refine AW_fin true try_mixed (by kernel_rfl) ?_
    refine runTf g'16 ?_
    refine cond_split (fun h1 => ?_) (fun h1 => ?_)
    · have h1d := bsT h1
      have g'17 := (jn @h1 (jn @h1d g'16))
      refine runTf g'17 ?_
      refine hn11 _ _ ?_
      refine AW_seqQ fun Q12 hn12 hr12 he12 => ?_
      have hQ12 := fun F H' h => hr12 F H' (hQ10 F H' h)
      refine AW_blockQ fun Q13 hn13 hr13 he13 hb13 => ?_
      have hQ13 := fun F H' h => hr13 F H' (hQ12 F H' h)
      refine AW_seqQ fun Q14 hn14 hr14 he14 => ?_
      have hQ14 := fun F H' h => hr14 F H' (hQ13 F H' h)
      refine AW_fin true try_mixed (by kernel_rfl) ?_
      refine runTf g'17 ?_
      refine hn14 _ _ ?_
      refine AW_blockQ fun Q15 hn15 hr15 he15 hb15 => ?_
      have hQ15 := fun F H' h => hr15 F H' (hQ13 F H' h)
      refine AW_loopA (fun k F Hx => ∃ m : Nat, m + k = (W + 2).toNat ∧ F = [(3, .int .i64 most), (4, .ptr (some (H.length, 0))), (5, .ptr (some (H.length + 1, 0))), (6, .ptr (some (H.length + 2, 0))), (8, .ptr (some (H.length + 3, 0))), (9, .ptr (some (H.length + 4, 0))), (11, .ptr (some (H.length + 5, 0))), (12, .ptr (some (H.length + 6, 0))), (13, .bool ((fsA W Hh xs px py vx vy vd most n m).isSome)), (14, .int .i64 ((-1) + ((n : Nat) : Int))), (15, .int .i64 ((-1) + ((m : Nat) : Int)))] ∧ Hx = H ++ [.cells true 0 [.int .i64 W, .int .i64 Hh, .sl (some (bpp, 0)) xs.length cpp], .cells true 0 [.int .i64 px, .int .i64 py], .cells true 0 [.int .i64 vx, .int .i64 vy, .int .i64 vd], .cells true 0 [.int .i64 0, .int .i64 0], .cells true 0 [.int .i64 0, .int .i64 0], .cells true 0 [.int .i64 (fsN px py vx vy vd (fsA W Hh xs px py vx vy vd most n m)), .int .i64 (fsDn px py vx vy vd (fsA W Hh xs px py vx vy vd most n m))], .cells true 0 [.int .i64 (oX (fsA W Hh xs px py vx vy vd most n m)), .int .i64 (oY (fsA W Hh xs px py vx vy vd most n m))]]) ((W + 2).toNat) ?_ ?_
      · refine ⟨_, _, _, ⟨0, by omega, rfl, rfl⟩, Abs.byG hbel [] rfl [0, 1, 2, 3, 4, 5, 6] (by decide) ?_⟩
        exact absWf (jn @Int.natCast_zero @Int.add_zero)
      · rintro k1 F Hx ⟨m, hm1, rfl, rfl⟩ Q16 hJ1 hr16 he16
        have hQ16 := fun F H' h => hr16 F H' (hQ15 F H' h)
        refine AW_seqQ fun Q17 hn17 hr17 he17 => ?_
        have hQ17 := fun F H' h => hr17 F H' (hQ16 F H' h)
        refine AW_fin true try_mixed (by kernel_rfl) ?_
        refine runTf g'17 ?_
        refine cond_split (fun h2 => ?_) (fun h2 => ?_)
        · have h2d := bsT h2
          have g'18 := (jn @h2 (jn @h2d g'17))
          refine runTf g'18 ?_
          refine hn17 _ _ ?_
          refine AW_seqQ fun Q18 hn18 hr18 he18 => ?_
          have hQ18 := fun F H' h => hr18 F H' (hQ16 F H' h)
          refine AW_blockQ fun Q19 hn19 hr19 he19 hb19 => ?_
          have hQ19 := fun F H' h => hr19 F H' (hQ18 F H' h)
          refine AW_seqQ fun Q20 hn20 hr20 he20 => ?_
          have hQ20 := fun F H' h => hr20 F H' (hQ19 F H' h)
          refine AW_fin true try_mixed (by kernel_rfl) ?_
          refine runTf g'18 ?_
          refine hn20 _ _ ?_
          refine AW_seqQ fun Q21 hn21 hr21 he21 => ?_
          have hQ21 := fun F H' h => hr21 F H' (hQ19 F H' h)
          refine AW_fin true try_mixed (by kernel_rfl) ?_
          refine runTf g'18 ?_
          refine call_v (by kernel_rfl) (at_c (x := ((-1) + ((m : Nat) : Int))) (y := ((-1) + ((n : Nat) : Int))) (vld_iff.1 hV) (by first | exact hb0pp _ | exact hbpp) rfl) ?_
          refine runTf g'18 ?_
          refine cond_split (fun h3 => ?_) (fun h3 => ?_)
          · have h3d := bsT h3
            have h3n := bnT h3
            have hst : fsA W Hh xs px py vx vy vd most n (m + 1) = fsA W Hh xs px py vx vy vd most n m := fsA_s.trans (fsStep_no (by unfold fsQ; rw [beq_eq_false_iff_ne.2 (by first | exact h3d | simpa using h3d)]; rfl))
            have hs1 := hst
            have hs2 := hst
            have hs3 := hst
            have g'19 := (jn @h3 (jn @h3n (jn @int_bne (jn @int_beq g'18))))
            refine runTf g'19 ?_
            refine he21 _ _ _ ?_
            refine hb19 _ _ ?_
            refine hn18 _ _ ?_
            refine AW_fin true try_mixed (by kernel_rfl) ?_
            refine runTf g'19 ?_
            refine hJ1 _ _ ⟨k1 - 1, by omega, _, _, _, ⟨m + 1, by omega, rfl, rfl⟩, Abs.byG hbel [] rfl [0, 1, 2, 3, 4, 5, 6] (by decide) ?_⟩
            exact absWf (jn @hst (jn @hs1 (jn @hs2 (jn @hs3 (jn @oX.eq_2 (jn @oY.eq_2 (jn @Option.isSome_some.{0} (jn @Int.natCast_add (jn @Int.natCast_one @Int.add_assoc)))))))))
          · have h3d := bsT h3
            have h3n := bnT h3
            have hat : atI W Hh xs ((-1) + ((m : Nat) : Int)) ((-1) + ((n : Nat) : Int)) = 2 := by first | exact h3d | simpa using h3d
            have g'20 := (jn @h3 (jn @h3n (jn @int_bne (jn @int_beq g'18))))
            refine runTf g'20 ?_
            refine hn21 _ _ ?_
            refine AW_special true try_mixed [[0, 1, 2, 3, 4, 5, 6, 7, 8, 9, 10], [0, 1, 2, 3, 8, 4, 5, 6, 7, 9, 10], [0, 1, 2, 8, 3, 4, 5, 6, 7, 9, 10]] (by kernel_rfl) (fun F2 H2 => F2 = [(3, .int .i64 most), (4, .ptr (some (H.length, 0))), (5, .ptr (some (H.length + 1, 0))), (6, .ptr (some (H.length + 2, 0))), (8, .ptr (some (H.length + 3, 0))), (9, .ptr (some (H.length + 4, 0))), (11, .ptr (some (H.length + 5, 0))), (12, .ptr (some (H.length + 6, 0))), (13, .bool ((fsA W Hh xs px py vx vy vd most n m).isSome)), (14, .int .i64 ((-1) + ((n : Nat) : Int))), (15, .int .i64 ((-1) + ((m : Nat) : Int))), (16, .ptr (some (H.length + 7, 0))), (17, .ptr (some (H.length + 8, 0))), (18, .bool (rOC px py vx vy vd ((-1) + ((m : Nat) : Int), (-1) + ((n : Nat) : Int))))] ∧ H2 = H ++ [.cells true 0 [.int .i64 W, .int .i64 Hh, .sl (some (bpp, 0)) xs.length cpp], .cells true 0 [.int .i64 px, .int .i64 py], .cells true 0 [.int .i64 vx, .int .i64 vy, .int .i64 vd], .cells true 0 [.int .i64 0, .int .i64 0], .cells true 0 [.int .i64 0, .int .i64 0], .cells true 0 [.int .i64 (fsN px py vx vy vd (fsA W Hh xs px py vx vy vd most n m)), .int .i64 (fsDn px py vx vy vd (fsA W Hh xs px py vx vy vd most n m))], .cells true 0 [.int .i64 (oX (fsA W Hh xs px py vx vy vd most n m)), .int .i64 (oY (fsA W Hh xs px py vx vy vd most n m))], .cells true 0 [.int .i64 ((-1) + ((m : Nat) : Int)), .int .i64 ((-1) + ((n : Nat) : Int))], .cells true 0 [.int .i64 (mkV (rOC px py vx vy vd ((-1) + ((m : Nat) : Int), (-1) + ((n : Nat) : Int))) (enC px py vx vy vd ((-1) + ((m : Nat) : Int), (-1) + ((n : Nat) : Int)))), .int .i64 (mkV (rOC px py vx vy vd ((-1) + ((m : Nat) : Int), (-1) + ((n : Nat) : Int))) (edC px py vx vy vd ((-1) + ((m : Nat) : Int), (-1) + ((n : Nat) : Int))))]]) ?_ ?_
            · refine reps_cons ?_ (reps_cons ?_ (reps_cons ?_ (reps_nil))) <;> intro J hJ
              · skip
                refine runDf g'20 ?_
                refine call_d (by kernel_rfl) (bsquare_c _ ((-1) + ((m : Nat) : Int)) ((-1) + ((n : Nat) : Int)) (by omega) (by omega)) ?_
                refine runDf g'20 ?_
                refine call_d (by kernel_rfl) (renterC_c _ px py vx vy vd ((-1) + ((m : Nat) : Int)) ((-1) + ((n : Nat) : Int))) ?_
                refine runDf g'20 ?_
                refine inv_of (hJ _ _ ⟨_, _, _, ⟨rfl, rfl⟩, Abs.byG hbel [] rfl [0, 1, 2, 3, 4, 5, 6, 7, 8] (by decide) ?_⟩)
                exact absW
              · skip
                refine runDf g'20 ?_
                refine call_d (by kernel_rfl) (bsquare_c _ ((-1) + ((m : Nat) : Int)) ((-1) + ((n : Nat) : Int)) (by omega) (by omega)) ?_
                refine runDf g'20 ?_
                refine call_d (by kernel_rfl) (renterC_c _ px py vx vy vd ((-1) + ((m : Nat) : Int)) ((-1) + ((n : Nat) : Int))) ?_
                refine runDf g'20 ?_
                refine inv_of (hJ _ _ ⟨_, _, _, ⟨rfl, rfl⟩, Abs.byG hbel [] rfl [0, 1, 2, 3, 4, 5, 6, 7, 8] (by decide) ?_⟩)
                exact absW
              · skip
                refine runDf g'20 ?_
                refine call_d (by kernel_rfl) (bsquare_c _ ((-1) + ((m : Nat) : Int)) ((-1) + ((n : Nat) : Int)) (by omega) (by omega)) ?_
                refine runDf g'20 ?_
                refine call_d (by kernel_rfl) (renterC_c _ px py vx vy vd ((-1) + ((m : Nat) : Int)) ((-1) + ((n : Nat) : Int))) ?_
                refine runDf g'20 ?_
                refine inv_of (hJ _ _ ⟨_, _, _, ⟨rfl, rfl⟩, Abs.byG hbel [] rfl [0, 1, 2, 3, 4, 5, 6, 7, 8] (by decide) ?_⟩)
                exact absW
            rintro F2 H2 ⟨rfl, rfl⟩
            refine AW_fin true try_mixed (by kernel_rfl) ?_
            refine runTf g'20 ?_
            refine gd_split (fun h4 => ?_) (fun h4 => ?_)
            · have h4d := bsT h4
              have hr := h4d
              have heb : (0 ≤ enC px py vx vy vd ((-1) + ((m : Nat) : Int), (-1) + ((n : Nat) : Int)) ∧ enC px py vx vy vd ((-1) + ((m : Nat) : Int), (-1) + ((n : Nat) : Int)) ≤ 562949953421312) ∧ 0 < edC px py vx vy vd ((-1) + ((m : Nat) : Int), (-1) + ((n : Nat) : Int)) ∧ edC px py vx vy vd ((-1) + ((m : Nat) : Int), (-1) + ((n : Nat) : Int)) ≤ 67108864 := (en_bd hr).1
              have g'21 := (jn @h4 (jn @h4d g'20))
              refine runTf g'21 ?_
              refine call_v (by kernel_rfl) (rless_c _ most 1 (enC px py vx vy vd ((-1) + ((m : Nat) : Int), (-1) + ((n : Nat) : Int))) (edC px py vx vy vd ((-1) + ((m : Nat) : Int), (-1) + ((n : Nat) : Int))) (by omega) (by omega) (by omega) (by omega)) ?_
              refine runTf g'21 ?_
              refine gd_split (fun h5 => ?_) (fun h5 => ?_)
              · have h5d := bsT h5
                have hle := decide_eq_false h5d
                have hQ : fsQ W Hh xs px py vx vy vd most ((-1) + ((m : Nat) : Int), (-1) + ((n : Nat) : Int)) = true := by unfold fsQ; rw [hat, hr, hle]; rfl
                have g'22 := (jn @h5 (jn @h5d g'21))
                refine runTf g'22 ?_
                refine gd_split (fun h6 => ?_) (fun h6 => ?_)
                · have h6d := bsT h6
                  have hsm := h6d
                  obtain ⟨bb, hbb⟩ := Option.isSome_iff_exists.1 h6d
                  have hbd0 := fsA_bd hbb
                  have hn1 : fsN px py vx vy vd (fsA W Hh xs px py vx vy vd most n m) = (fsD px py vx vy vd bb).1 := by rw [hbb]; rfl
                  have hn2 : fsDn px py vx vy vd (fsA W Hh xs px py vx vy vd most n m) = (fsD px py vx vy vd bb).2 := by rw [hbb]; rfl
                  have g'23 := (jn @h6 (jn @h6d g'22))
                  refine runTf g'23 ?_
                  refine call_v (by kernel_rfl) (rless_c _ (enC px py vx vy vd ((-1) + ((m : Nat) : Int), (-1) + ((n : Nat) : Int))) (edC px py vx vy vd ((-1) + ((m : Nat) : Int), (-1) + ((n : Nat) : Int))) (fsN px py vx vy vd (fsA W Hh xs px py vx vy vd most n m)) (fsDn px py vx vy vd (fsA W Hh xs px py vx vy vd most n m)) (by omega) (by omega) (by omega) (by omega)) ?_
                  refine runTf g'23 ?_
                  refine cond_split (fun h7 => ?_) (fun h7 => ?_)
                  · have h7d := bsT h7
                    have hst : fsA W Hh xs px py vx vy vd most n (m + 1) = some ((-1) + ((m : Nat) : Int), (-1) + ((n : Nat) : Int)) := fsA_s.trans (by rw [hbb]; exact fsStep_less hQ (by rw [fsD_on hr, ← hn1, ← hn2]; exact h7d))
                    have hs1 : fsN px py vx vy vd (some ((-1) + ((m : Nat) : Int), (-1) + ((n : Nat) : Int))) = enC px py vx vy vd ((-1) + ((m : Nat) : Int), (-1) + ((n : Nat) : Int)) := congrArg Prod.fst (fsD_on hr)
                    have hs2 : fsDn px py vx vy vd (some ((-1) + ((m : Nat) : Int), (-1) + ((n : Nat) : Int))) = edC px py vx vy vd ((-1) + ((m : Nat) : Int), (-1) + ((n : Nat) : Int)) := congrArg Prod.snd (fsD_on hr)
                    have hs3 := hst
                    have g'24 := (jn @h7 (jn @h7d g'23))
                    refine runTf g'24 ?_
                    refine hn19 _ _ ?_
                    refine hn18 _ _ ?_
                    refine AW_fin true try_mixed (by kernel_rfl) ?_
                    refine runTf g'24 ?_
                    refine hJ1 _ _ ⟨k1 - 1, by omega, _, _, _, ⟨m + 1, by omega, rfl, rfl⟩, Abs.byG hbel [] rfl [0, 1, 2, 3, 4, 5, 6] (by decide) ?_⟩
                    exact absWf (jn @hst (jn @hs1 (jn @hs2 (jn @hs3 (jn @oX.eq_2 (jn @oY.eq_2 (jn @Option.isSome_some.{0} (jn @Int.natCast_add (jn @Int.natCast_one @Int.add_assoc)))))))))
                  · have h7d := bsT h7
                    have hst : fsA W Hh xs px py vx vy vd most n (m + 1) = fsA W Hh xs px py vx vy vd most n m := fsA_s.trans (by rw [hbb]; exact fsStep_far (by rw [fsD_on hr, ← hn1, ← hn2]; exact h7d))
                    have hs1 := hst
                    have hs2 := hst
                    have hs3 := hsm
                    have g'25 := (jn @h7 (jn @h7d g'23))
                    refine runTf g'25 ?_
                    refine hn19 _ _ ?_
                    refine hn18 _ _ ?_
                    refine AW_fin true try_mixed (by kernel_rfl) ?_
                    refine runTf g'25 ?_
                    refine hJ1 _ _ ⟨k1 - 1, by omega, _, _, _, ⟨m + 1, by omega, rfl, rfl⟩, Abs.byG hbel [] rfl [0, 1, 2, 3, 4, 5, 6] (by decide) ?_⟩
                    exact absWf (jn @hst (jn @hs1 (jn @hs2 (jn @hs3 (jn @oX.eq_2 (jn @oY.eq_2 (jn @Option.isSome_some.{0} (jn @Int.natCast_add (jn @Int.natCast_one @Int.add_assoc)))))))))
                · have h6d := bsT h6
                  have hnn : (fsA W Hh xs px py vx vy vd most n m) = none := by simpa using h6d
                  have hst : fsA W Hh xs px py vx vy vd most n (m + 1) = some ((-1) + ((m : Nat) : Int), (-1) + ((n : Nat) : Int)) := fsA_s.trans (by rw [hnn]; exact fsStep_new hQ)
                  have hs1 : fsN px py vx vy vd (some ((-1) + ((m : Nat) : Int), (-1) + ((n : Nat) : Int))) = enC px py vx vy vd ((-1) + ((m : Nat) : Int), (-1) + ((n : Nat) : Int)) := congrArg Prod.fst (fsD_on hr)
                  have hs2 : fsDn px py vx vy vd (some ((-1) + ((m : Nat) : Int), (-1) + ((n : Nat) : Int))) = edC px py vx vy vd ((-1) + ((m : Nat) : Int), (-1) + ((n : Nat) : Int)) := congrArg Prod.snd (fsD_on hr)
                  have hs3 := hst
                  have g'26 := (jn @h6 (jn @h6d g'22))
                  refine runTf g'26 ?_
                  refine hn19 _ _ ?_
                  refine hn18 _ _ ?_
                  refine AW_fin true try_mixed (by kernel_rfl) ?_
                  refine runTf g'26 ?_
                  refine hJ1 _ _ ⟨k1 - 1, by omega, _, _, _, ⟨m + 1, by omega, rfl, rfl⟩, Abs.byG hbel [] rfl [0, 1, 2, 3, 4, 5, 6] (by decide) ?_⟩
                  exact absWf (jn @hst (jn @hs1 (jn @hs2 (jn @hs3 (jn @oX.eq_2 (jn @oY.eq_2 (jn @Option.isSome_some.{0} (jn @Int.natCast_add (jn @Int.natCast_one @Int.add_assoc)))))))))
              · have h5d := bsT h5
                have hst : fsA W Hh xs px py vx vy vd most n (m + 1) = fsA W Hh xs px py vx vy vd most n m := fsA_s.trans (fsStep_no (by unfold fsQ; rw [decide_eq_true h5d]; simp))
                have hs1 := hst
                have hs2 := hst
                have hs3 := hst
                have g'27 := (jn @h5 (jn @h5d g'21))
                refine runTf g'27 ?_
                refine hn19 _ _ ?_
                refine hn18 _ _ ?_
                refine AW_fin true try_mixed (by kernel_rfl) ?_
                refine runTf g'27 ?_
                refine hJ1 _ _ ⟨k1 - 1, by omega, _, _, _, ⟨m + 1, by omega, rfl, rfl⟩, Abs.byG hbel [] rfl [0, 1, 2, 3, 4, 5, 6] (by decide) ?_⟩
                exact absWf (jn @hst (jn @hs1 (jn @hs2 (jn @hs3 (jn @oX.eq_2 (jn @oY.eq_2 (jn @Option.isSome_some.{0} (jn @Int.natCast_add (jn @Int.natCast_one @Int.add_assoc)))))))))
            · have h4d := bsT h4
              have hst : fsA W Hh xs px py vx vy vd most n (m + 1) = fsA W Hh xs px py vx vy vd most n m := fsA_s.trans (fsStep_no (by unfold fsQ; rw [h4d]; simp))
              have hs1 := hst
              have hs2 := hst
              have hs3 := hst
              have g'28 := (jn @h4 (jn @h4d g'20))
              refine runTf g'28 ?_
              refine hn19 _ _ ?_
              refine hn18 _ _ ?_
              refine AW_fin true try_mixed (by kernel_rfl) ?_
              refine runTf g'28 ?_
              refine hJ1 _ _ ⟨k1 - 1, by omega, _, _, _, ⟨m + 1, by omega, rfl, rfl⟩, Abs.byG hbel [] rfl [0, 1, 2, 3, 4, 5, 6] (by decide) ?_⟩
              exact absWf (jn @hst (jn @hs1 (jn @hs2 (jn @hs3 (jn @oX.eq_2 (jn @oY.eq_2 (jn @Option.isSome_some.{0} (jn @Int.natCast_add (jn @Int.natCast_one @Int.add_assoc)))))))))
        · have h2d := bsT h2
          obtain rfl : m = (W + 2).toNat := by omega
          have g'29 := (jn @h2 (jn @h2d g'17))
          refine runTf g'29 ?_
          refine he17 _ _ _ ?_
          refine he16 _ _ _ ?_
          refine hb15 _ _ ?_
          refine hn13 _ _ ?_
          refine hn12 _ _ ?_
          refine AW_fin true try_mixed (by kernel_rfl) ?_
          refine runTf g'29 ?_
          refine hJ0 _ _ ⟨k0 - 1, by omega, _, _, _, ⟨n + 1, by omega, rfl, rfl⟩, Abs.byG hbel [] rfl [0, 1, 2, 3, 4, 5, 6] (by decide) ?_⟩
          exact absWf (jn @fsA_w (jn @Int.natCast_add (jn @Int.natCast_one @Int.add_assoc)))
    · have h1d := bsT h1
      obtain rfl : n = (Hh + 2).toNat := by omega
      have g'30 := (jn @h1 (jn @h1d g'16))
      refine runTf g'30 ?_
      refine he11 _ _ _ ?_
      refine he10 _ _ _ ?_
      refine hb9 _ _ ?_
      refine hn7 _ _ ?_
      refine AW_special true try_mixed [[0, 1, 2, 3, 4, 5], [0, 2, 3, 1, 4, 5]] (by kernel_rfl) (fun F2 H2 => F2 = [(8, .ptr (some (H.length, 0))), (9, .ptr (some (H.length + 1, 0))), (10, .bool ((fsA W Hh xs px py vx vy vd most (Hh + 2).toNat 0).isSome))] ∧ H2 = H ++ [.cells true 0 [.int .i64 (fsN px py vx vy vd (fsA W Hh xs px py vx vy vd most (Hh + 2).toNat 0)), .int .i64 (fsDn px py vx vy vd (fsA W Hh xs px py vx vy vd most (Hh + 2).toNat 0))], .cells true 0 [.int .i64 (oX (fsA W Hh xs px py vx vy vd most (Hh + 2).toNat 0)), .int .i64 (oY (fsA W Hh xs px py vx vy vd most (Hh + 2).toNat 0))]]) ?_ ?_
      · refine reps_cons ?_ (reps_cons ?_ (reps_nil)) <;> intro J hJ
        · skip
          refine runDf g'30 ?_
          refine inv_of (hJ _ _ ⟨_, _, _, ⟨rfl, rfl⟩, Abs.byG hbel [] rfl [3, 4] (by decide) ?_⟩)
          exact absW
        · skip
          refine runDf g'30 ?_
          refine inv_of (hJ _ _ ⟨_, _, _, ⟨rfl, rfl⟩, Abs.byG hbel [] rfl [3, 4] (by decide) ?_⟩)
          exact absW
      rintro F2 H2 ⟨rfl, rfl⟩
      refine AW_fin true try_mixed (by kernel_rfl) ?_
      refine runTf g'30 ?_
      exact hQ _ _ (end_plain (.inl rfl) hbel (x := .tup [.agg [.int .i64 (fsN px py vx vy vd (fsA W Hh xs px py vx vy vd most (Hh + 2).toNat 0)), .int .i64 (fsDn px py vx vy vd (fsA W Hh xs px py vx vy vd most (Hh + 2).toNat 0))], .agg [.int .i64 (oX (fsA W Hh xs px py vx vy vd most (Hh + 2).toNat 0)), .int .i64 (oY (fsA W Hh xs px py vx vy vd most (Hh + 2).toNat 0))], .bool ((fsA W Hh xs px py vx vy vd most (Hh + 2).toNat 0).isSome)]) (resT Tryz.results162) rfl ⟨rfl, rfl⟩)
theorem rfirstB_c (H : AHeap) (W Hh : Int) (pp : AV) (xs : List Int) (x y h m : Int) (hpp : Sl H 1 pp xs.length (ints .u8 xs)) (hi : inpB W Hh xs x y = true) : ACalls Tryz.prog 162 [.agg [.int .i64 W, .int .i64 Hh, pp], .agg [.int .i64 x, .int .i64 y], .agg [.int .i64 (beamV h m).1, .int .i64 (beamV h m).2.1, .int .i64 (beamV h m).2.2], .int .i64 1024] H (fun v H' => v = .tup [.agg [.int .i64 (fbN W Hh xs x y h m), .int .i64 (fbD W Hh xs x y h m)], .agg [.int .i64 (oX (fsB W Hh xs x y h m)), .int .i64 (oY (fsB W Hh xs x y h m))], .bool (fsB W Hh xs x y h m).isSome] ∧ H' = H) := rfirst_c H W Hh pp xs x y _ _ _ 1024 hpp hi (beam_ok h m) (by omega)
open Go.RowKit
theorem rmeas_c (H : AHeap) (W : Int) (Hh : Int) (pp : AV) (xs : List Int) (x : Int) (y : Int) (h : Int) (m : Int) (g : Int) (e : Int) (hpp : Sl H 1 pp xs.length (ints .u8 xs)) (hG : gooB W Hh xs x y h = true) (hg : 1 ≤ g ∧ g ≤ 32) : ACalls Tryz.prog 77 [.agg [.int .i64 W, .int .i64 Hh, pp], .agg [.int .i64 x, .int .i64 y, .int .i64 h], .int .i64 m, .int .i64 g, .int .i64 e] H (fun v H' => v = .tup [.int .i64 (meaV W Hh xs x y h g m e), .int .i64 (meaE m)] ∧ H' = H) := by
  obtain ⟨bpp, opp, cpp, rfl, hbpp⟩ := hpp
  have hblpp := getElem?_lt hbpp
  have hb0pp := fun l => get_app (l := l) hbpp
  have hga := decide_eq_false (show ¬ g < 1 by omega)
  have hgb := decide_eq_false (show ¬ 32 < g by omega)
  have hip : inpB W Hh xs x y = true := by have q := hG; unfold gooB at q; rw [Bool.and_eq_true] at q; exact q.1
  have hcl := clgb (n := e) (lo := 1 - g) (hi := g) (by omega)
  have htd : ∀ a b : Int, 0 ≤ a → Int.tdiv a b = a / b := fun a b h => Int.tdiv_eq_ediv_of_nonneg h
  have hzz : (if 0 < (fbN W Hh xs x y h m) / (fbD W Hh xs x y h m) + clgI e (1 - g) g then (fbN W Hh xs x y h m) / (fbD W Hh xs x y h m) + clgI e (1 - g) g else 0) = zzI W Hh xs x y h g m e := rfl
  (refine ACalls_pieces Tryz.func77 _ rfl (Nat.le_of_ble_eq_true (by kernel_rfl)) rfl ?_; intro hbel Q hQ hQ' c hc; unfold Tryz.f77 at hc; simp only [Option.some.injEq] at hc; subst hc; clear hQ')
  refine AW_seqQ fun Q1 hn1 hr1 he1 => ?_
  have hQ1 := fun F H' h => hr1 F H' (hQ F H' h)
  refine AW_fin true try_mixed (by kernel_rfl) ?_
  have g'1 := (jn @hbpp (jn @hb0pp (jn @hG (jn @hga (jn @hgb (jn @htd @hzz))))))
  refine runTf g'1 ?_
  refine hn1 _ _ ?_
  refine AW_seqQ fun Q2 hn2 hr2 he2 => ?_
  have hQ2 := fun F H' h => hr2 F H' (hQ F H' h)
  refine AW_fin true try_mixed (by kernel_rfl) ?_
  refine runTf g'1 ?_
  refine call_v (by kernel_rfl) (rgood_c _ W Hh _ xs x y h ⟨_, _, _, rfl, by first | exact hb0pp _ | exact hbpp⟩) ?_
  refine runTf g'1 ?_
  refine hn2 _ _ ?_
  refine AW_seqQ fun Q3 hn3 hr3 he3 => ?_
  have hQ3 := fun F H' h => hr3 F H' (hQ F H' h)
  refine AW_fin true try_mixed (by kernel_rfl) ?_
  refine runTf g'1 ?_
  refine gd_split (fun h1 => ?_) (fun h1 => ?_)
  · have h1d := bsT h1
    have g'2 := (jn @h1 (jn @h1d g'1))
    refine runTf g'2 ?_
    refine cond_split (fun h2 => ?_) (fun h2 => ?_)
    · have h2d := bsT h2
      have hfinM : mrkB m = false := by unfold mrkB; rw [decide_eq_false (show ¬ m ≤ 255 by omega)]; simp
      have g'3 := (jn @h2 (jn @h2d g'2))
      refine runTf g'3 ?_
      exact hQ3 _ _ (end_plain (.inl rfl) hbel (x := .tup [.int .i64 0, .int .i64 2]) (resT Tryz.results77) rfl ⟨by first | (unfold meaV meaE; rw [hfinM, hfinZ]; rfl) | (unfold meaV meaE; rw [hfinM]; rfl), rfl⟩)
    · have h2d := bsT h2
      have hfinM : mrkB m = true := by unfold mrkB; rw [decide_eq_true (by omega), decide_eq_true (by omega)]; rfl
      have g'4 := (jn @h2 (jn @h2d g'2))
      refine runTf g'4 ?_
      refine hn3 _ _ ?_
      refine AW_special true try_mixed [[0, 1, 2, 3, 4, 5, 6, 7, 8, 9, 10, 11, 12, 13, 14, 15, 16, 17, 18, 19], [0, 1, 2, 3, 4, 5, 6, 7, 8, 9, 10, 11, 12, 13, 14, 16, 15, 17, 18, 19], [0, 1, 2, 3, 4, 5, 6, 7, 8, 9, 16, 10, 11, 12, 13, 14, 15, 17, 18, 19], [0, 1, 2, 3, 4, 5, 6, 7, 8, 16, 9, 10, 11, 12, 13, 14, 15, 17, 18, 19], [0, 1, 2, 3, 4, 5, 6, 7, 8, 9, 15, 10, 11, 12, 13, 14, 16, 17, 18, 19], [0, 1, 2, 3, 4, 5, 6, 7, 8, 9, 15, 16, 10, 11, 12, 13, 14, 17, 18, 19], [0, 1, 2, 3, 4, 5, 6, 7, 8, 9, 16, 15, 10, 11, 12, 13, 14, 17, 18, 19], [0, 1, 2, 3, 4, 5, 6, 7, 8, 16, 9, 15, 10, 11, 12, 13, 14, 17, 18, 19], [0, 1, 2, 3, 4, 5, 6, 7, 8, 15, 9, 10, 11, 12, 13, 14, 16, 17, 18, 19], [0, 1, 2, 3, 4, 5, 6, 7, 8, 15, 9, 16, 10, 11, 12, 13, 14, 17, 18, 19], [0, 1, 2, 3, 4, 5, 6, 7, 8, 15, 16, 9, 10, 11, 12, 13, 14, 17, 18, 19], [0, 1, 2, 3, 4, 5, 6, 7, 8, 16, 15, 9, 10, 11, 12, 13, 14, 17, 18, 19]] (by kernel_rfl) (fun F2 H2 => F2 = [(3, .int .i64 g), (4, .int .i64 e), (10, .int .i64 0), (11, .int .i64 0), (12, .ptr (some (H.length, 0))), (14, .bool ((fsB W Hh xs x y h m).isSome))] ∧ H2 = H ++ [.cells true 0 [.int .i64 (fbN W Hh xs x y h m), .int .i64 (fbD W Hh xs x y h m)]]) ?_ ?_
      · refine reps_cons ?_ (reps_cons ?_ (reps_cons ?_ (reps_cons ?_ (reps_cons ?_ (reps_cons ?_ (reps_cons ?_ (reps_cons ?_ (reps_cons ?_ (reps_cons ?_ (reps_cons ?_ (reps_cons ?_ (reps_nil)))))))))))) <;> intro J hJ
        · skip
          refine runDf g'4 ?_
          refine call_d (by kernel_rfl) (rbeam_c _ h m) ?_
          refine runDf g'4 ?_
          refine call_d (by kernel_rfl) (rfirstB_c _ W Hh _ xs x y h m ⟨_, _, _, rfl, by first | exact hb0pp _ | exact hbpp⟩ (by assumption)) ?_
          refine runDf g'4 ?_
          refine inv_of (hJ _ _ ⟨_, _, _, ⟨rfl, rfl⟩, Abs.byG hbel [] rfl [2] (by decide) ?_⟩)
          exact absW
        · skip
          refine runDf g'4 ?_
          refine call_d (by kernel_rfl) (rbeam_c _ h m) ?_
          refine runDf g'4 ?_
          refine call_d (by kernel_rfl) (rfirstB_c _ W Hh _ xs x y h m ⟨_, _, _, rfl, by first | exact hb0pp _ | exact hbpp⟩ (by assumption)) ?_
          refine runDf g'4 ?_
          refine inv_of (hJ _ _ ⟨_, _, _, ⟨rfl, rfl⟩, Abs.byG hbel [] rfl [3] (by decide) ?_⟩)
          exact absW
        · skip
          refine runDf g'4 ?_
          refine call_d (by kernel_rfl) (rbeam_c _ h m) ?_
          refine runDf g'4 ?_
          refine call_d (by kernel_rfl) (rfirstB_c _ W Hh _ xs x y h m ⟨_, _, _, rfl, by first | exact hb0pp _ | exact hbpp⟩ (by assumption)) ?_
          refine runDf g'4 ?_
          refine inv_of (hJ _ _ ⟨_, _, _, ⟨rfl, rfl⟩, Abs.byG hbel [] rfl [3] (by decide) ?_⟩)
          exact absW
        · skip
          refine runDf g'4 ?_
          refine call_d (by kernel_rfl) (rbeam_c _ h m) ?_
          refine runDf g'4 ?_
          refine call_d (by kernel_rfl) (rfirstB_c _ W Hh _ xs x y h m ⟨_, _, _, rfl, by first | exact hb0pp _ | exact hbpp⟩ (by assumption)) ?_
          refine runDf g'4 ?_
          refine inv_of (hJ _ _ ⟨_, _, _, ⟨rfl, rfl⟩, Abs.byG hbel [] rfl [3] (by decide) ?_⟩)
          exact absW
        · skip
          refine runDf g'4 ?_
          refine call_d (by kernel_rfl) (rbeam_c _ h m) ?_
          refine runDf g'4 ?_
          refine call_d (by kernel_rfl) (rfirstB_c _ W Hh _ xs x y h m ⟨_, _, _, rfl, by first | exact hb0pp _ | exact hbpp⟩ (by assumption)) ?_
          refine runDf g'4 ?_
          refine inv_of (hJ _ _ ⟨_, _, _, ⟨rfl, rfl⟩, Abs.byG hbel [] rfl [2] (by decide) ?_⟩)
          exact absW
        · skip
          refine runDf g'4 ?_
          refine call_d (by kernel_rfl) (rbeam_c _ h m) ?_
          refine runDf g'4 ?_
          refine call_d (by kernel_rfl) (rfirstB_c _ W Hh _ xs x y h m ⟨_, _, _, rfl, by first | exact hb0pp _ | exact hbpp⟩ (by assumption)) ?_
          refine runDf g'4 ?_
          refine inv_of (hJ _ _ ⟨_, _, _, ⟨rfl, rfl⟩, Abs.byG hbel [] rfl [2] (by decide) ?_⟩)
          exact absW
        · skip
          refine runDf g'4 ?_
          refine call_d (by kernel_rfl) (rbeam_c _ h m) ?_
          refine runDf g'4 ?_
          refine call_d (by kernel_rfl) (rfirstB_c _ W Hh _ xs x y h m ⟨_, _, _, rfl, by first | exact hb0pp _ | exact hbpp⟩ (by assumption)) ?_
          refine runDf g'4 ?_
          refine inv_of (hJ _ _ ⟨_, _, _, ⟨rfl, rfl⟩, Abs.byG hbel [] rfl [3] (by decide) ?_⟩)
          exact absW
        · skip
          refine runDf g'4 ?_
          refine call_d (by kernel_rfl) (rbeam_c _ h m) ?_
          refine runDf g'4 ?_
          refine call_d (by kernel_rfl) (rfirstB_c _ W Hh _ xs x y h m ⟨_, _, _, rfl, by first | exact hb0pp _ | exact hbpp⟩ (by assumption)) ?_
          refine runDf g'4 ?_
          refine inv_of (hJ _ _ ⟨_, _, _, ⟨rfl, rfl⟩, Abs.byG hbel [] rfl [3] (by decide) ?_⟩)
          exact absW
        · skip
          refine runDf g'4 ?_
          refine call_d (by kernel_rfl) (rbeam_c _ h m) ?_
          refine runDf g'4 ?_
          refine call_d (by kernel_rfl) (rfirstB_c _ W Hh _ xs x y h m ⟨_, _, _, rfl, by first | exact hb0pp _ | exact hbpp⟩ (by assumption)) ?_
          refine runDf g'4 ?_
          refine inv_of (hJ _ _ ⟨_, _, _, ⟨rfl, rfl⟩, Abs.byG hbel [] rfl [2] (by decide) ?_⟩)
          exact absW
        · skip
          refine runDf g'4 ?_
          refine call_d (by kernel_rfl) (rbeam_c _ h m) ?_
          refine runDf g'4 ?_
          refine call_d (by kernel_rfl) (rfirstB_c _ W Hh _ xs x y h m ⟨_, _, _, rfl, by first | exact hb0pp _ | exact hbpp⟩ (by assumption)) ?_
          refine runDf g'4 ?_
          refine inv_of (hJ _ _ ⟨_, _, _, ⟨rfl, rfl⟩, Abs.byG hbel [] rfl [2] (by decide) ?_⟩)
          exact absW
        · skip
          refine runDf g'4 ?_
          refine call_d (by kernel_rfl) (rbeam_c _ h m) ?_
          refine runDf g'4 ?_
          refine call_d (by kernel_rfl) (rfirstB_c _ W Hh _ xs x y h m ⟨_, _, _, rfl, by first | exact hb0pp _ | exact hbpp⟩ (by assumption)) ?_
          refine runDf g'4 ?_
          refine inv_of (hJ _ _ ⟨_, _, _, ⟨rfl, rfl⟩, Abs.byG hbel [] rfl [2] (by decide) ?_⟩)
          exact absW
        · skip
          refine runDf g'4 ?_
          refine call_d (by kernel_rfl) (rbeam_c _ h m) ?_
          refine runDf g'4 ?_
          refine call_d (by kernel_rfl) (rfirstB_c _ W Hh _ xs x y h m ⟨_, _, _, rfl, by first | exact hb0pp _ | exact hbpp⟩ (by assumption)) ?_
          refine runDf g'4 ?_
          refine inv_of (hJ _ _ ⟨_, _, _, ⟨rfl, rfl⟩, Abs.byG hbel [] rfl [3] (by decide) ?_⟩)
          exact absW
      rintro F2 H2 ⟨rfl, rfl⟩
      refine AW_fin true try_mixed (by kernel_rfl) ?_
      refine runTf g'4 ?_
      refine cond_split (fun h3 => ?_) (fun h3 => ?_)
      · have h3d := bsT h3
        have hfinZ : meaZ W Hh xs x y h g m e = -1 := by unfold meaZ; rw [h3d]; rfl
        have g'5 := (jn @h3 (jn @h3d g'4))
        refine runTf g'5 ?_
        exact hQ _ _ (end_plain (.inl rfl) hbel (x := .tup [.int .i64 (-1), .int .i64 0]) (resT Tryz.results77) rfl ⟨by first | (unfold meaV meaE; rw [hfinM, hfinZ]; rfl) | (unfold meaV meaE; rw [hfinM]; rfl), rfl⟩)
      · have h3d := bsT h3
        obtain ⟨bb, hbb⟩ := Option.isSome_iff_exists.1 h3d
        have hbd0 := fb_bd hbb
        have hdn := Int.ediv_nonneg hbd0.1.1 (show 0 ≤ fbD W Hh xs x y h m by omega)
        have hdl : fbN W Hh xs x y h m / fbD W Hh xs x y h m ≤ fbN W Hh xs x y h m := Int.ediv_le_self _ hbd0.1.1
        have hfinS := h3d
        have hfinT := h3d
        have g'6 := (jn @h3 (jn @h3d g'4))
        refine runTf g'6 ?_
        refine call_d (by kernel_rfl) (bclipg_c _ e (1 - g) g) ?_
        refine runTf g'6 ?_
        refine cond_split (fun h4 => ?_) (fun h4 => ?_)
        · have h4d := bsT h4
          have hz1 : 1024 < zzI W Hh xs x y h g m e := h4d
          have hfinZ : meaZ W Hh xs x y h g m e = -1 := by unfold meaZ; rw [if_pos hfinS, if_pos hz1]
          have g'7 := (jn @h4 (jn @h4d g'6))
          refine runTf g'7 ?_
          exact hQ _ _ (end_plain (.inl rfl) hbel (x := .tup [.int .i64 (-1), .int .i64 0]) (resT Tryz.results77) rfl ⟨by first | (unfold meaV meaE; rw [hfinM, hfinZ]; rfl) | (unfold meaV meaE; rw [hfinM]; rfl), rfl⟩)
        · have h4d := bsT h4
          have hz1 : ¬ 1024 < zzI W Hh xs x y h g m e := by first | exact h4d | exact Int.not_lt.2 h4d
          have hfinZ : meaZ W Hh xs x y h g m e = zzI W Hh xs x y h g m e := by unfold meaZ; rw [if_pos hfinS, if_neg hz1]
          have g'8 := (jn @h4 (jn @h4d g'6))
          refine runTf g'8 ?_
          exact hQ _ _ (end_plain (.inl rfl) hbel (x := .tup [.int .i64 (zzI W Hh xs x y h g m e), .int .i64 0]) (resT Tryz.results77) rfl ⟨by first | (unfold meaV meaE; rw [hfinM, hfinZ]; rfl) | (unfold meaV meaE; rw [hfinM]; rfl), rfl⟩)
  · have h1d := bsT h1
    have hfinM : mrkB m = false := by unfold mrkB; rw [decide_eq_false (by omega)]; rfl
    have g'9 := (jn @h1 (jn @h1d g'1))
    refine runTf g'9 ?_
    exact hQ3 _ _ (end_plain (.inl rfl) hbel (x := .tup [.int .i64 0, .int .i64 2]) (resT Tryz.results77) rfl ⟨by first | (unfold meaV meaE; rw [hfinM, hfinZ]; rfl) | (unfold meaV meaE; rw [hfinM]; rfl), rfl⟩)
theorem rsweep_c (H : AHeap) (W : Int) (Hh : Int) (pp : AV) (xs : List Int) (x : Int) (y : Int) (h : Int) (mk : AV) (mks : List Int) (g : Int) (er : AV) (ers : List Int) (hpp : Sl H 1 pp xs.length (ints .u8 xs)) (hmk : Sl H 1 mk mks.length (ints .i64 mks)) (her : Sl H 1 er ers.length (ints .i64 ers)) (hG : gooB W Hh xs x y h = true) (hg : 1 ≤ g ∧ g ≤ 32) (hle : ers.length ≤ 1000000000) : ACalls Tryz.prog 19 [.agg [.int .i64 W, .int .i64 Hh, pp], .agg [.int .i64 x, .int .i64 y, .int .i64 h], mk, .int .i64 g, er] H (fun v H' => v = .tup [.sl (some (H.length, 0)) ((swpL2 W Hh xs x y h g mks ers).length) (capG (swpL2 W Hh xs x y h g mks ers).length), .int .i64 (swpE mks)] ∧ H' = H ++ [.cells (ownG (swpL2 W Hh xs x y h g mks ers).length) 2 (prs (swpL2 W Hh xs x y h g mks ers))]) := by
  obtain ⟨bpp, opp, cpp, rfl, hbpp⟩ := hpp
  have hblpp := getElem?_lt hbpp
  have hb0pp := fun l => get_app (l := l) hbpp
  obtain ⟨bmk, omk, cmk, rfl, hbmk⟩ := hmk
  have hblmk := getElem?_lt hbmk
  have hb0mk := fun l => get_app (l := l) hbmk
  obtain ⟨ber, oer, cer, rfl, hber⟩ := her
  have hbler := getElem?_lt hber
  have hb0er := fun l => get_app (l := l) hber
  refine AcT false Tryz.func19 ?_; intro hbel Q hQ
  have g'10 := (jn @hbpp (jn @hb0pp (jn @hbmk (jn @hb0mk (jn @hber @hb0er)))))
  refine runTf g'10 ?_
  refine cond_split (fun h1 => ?_) (fun h1 => ?_)
  · have h1d := bsT h1
    have hfinE := swpE_6 (show 32 < mks.length by omega)
    have hfinL := swpL2_n (W := W) (Hh := Hh) (xs := xs) (x := x) (y := y) (h := h) (g := g) (ers := ers) (show ¬ swpE mks = 0 by rw [hfinE]; decide)
    have g'11 := (jn @h1 (jn @h1d g'10))
    refine runTf g'11 ?_
    refine hQ _ _ (end_byG (.inl rfl) hbel (x1 := .tup [.sl none 0 (some 0), .int .i64 6]) (l2 := [.cells false 2 []]) (.tup [.sl (some (H.length, 0)) 0 (some 0), .int .i64 6]) (resT Tryz.results19) [.cells false 2 []] rfl [2] (by decide) ⟨by first | (rw [hfinE, hfinL]; done) | (rw [hfinE, hfinL]; rfl) | (rw [hfinE, hfinL, hfinM]; rfl), by first | (rw [hfinL]; done) | (rw [hfinL]; rfl)⟩ ?_)
    exact absW
  · have h1d := bsT h1
    have hl32 : ¬ 32 < mks.length := by omega
    have g'12 := (jn @h1 (jn @h1d g'10))
    refine runTf g'12 ?_
    refine go_loop try_mixed (by kernel_rfl) (fun k F Hx => ∃ i : Nat, i + k = mks.length ∧ (∀ j : Nat, j < i → mrkB (gi mks j) = true) ∧ F = [(2, .sl (some (bmk, 0)) mks.length cmk), (3, .int .i64 g), (4, .sl (some (ber, 0)) ers.length cer), (5, .ptr (some (H.length, 0))), (6, .ptr (some (H.length + 1, 0))), (12, .sl (some (H.length + 2, 0)) ((swpB W Hh xs x y h g mks ers i).length) (capG (swpB W Hh xs x y h g mks ers i).length)), (13, .int .i64 ((i : Nat) : Int))] ∧ Hx = H ++ [.cells true 0 [.int .i64 W, .int .i64 Hh, .sl (some (bpp, 0)) xs.length cpp], .cells true 0 [.int .i64 x, .int .i64 y, .int .i64 h], .cells (ownG (swpB W Hh xs x y h g mks ers i).length) 2 (prs (swpB W Hh xs x y h g mks ers i))]) (mks.length) ?_ ?_
    · refine ⟨_, _, _, ⟨0, by omega, (fun j h => by omega), rfl, rfl⟩, Abs.byG hbel [.cells false 2 []] rfl [0, 1, 2] (by decide) ?_⟩
      exact absRf @swpB.eq_1
    · rintro k0 F Hx ⟨i, hm0, hal, rfl, rfl⟩ J0 hJ0
      have g'13 := (jn @prs_len (jn @prs_one g'12))
      refine runTf g'13 ?_
      refine cond_split (fun h2 => ?_) (fun h2 => ?_)
      · have h2d := bsT h2
        have hlt : i < mks.length := by omega
        have hbl := swpB_len (W := W) (Hh := Hh) (xs := xs) (x := x) (y := y) (h := h) (g := g) (mks := mks) (ers := ers) i
        have g'14 := (jn @h2 (jn @h2d g'13))
        refine runTf g'14 ?_
        refine cond_split (fun h3 => ?_) (fun h3 => ?_)
        · have h3d := bsT h3
          have hsg : gi ers i = gi ers i := rfl
          have q4 := ints_get (k := .i64) (xs := ers) (j := i) (by omega)
          have q5 := ints_get (k := .i64) (xs := mks) (j := i) (by omega)
          have g'15 := (jn @h3 (jn @h3d (jn @q4 (jn @q5 g'14))))
          refine runTf g'15 ?_
          refine call_d (by kernel_rfl) (rmeas_c _ W Hh _ xs x y h (gi mks i) g (gi ers i) ⟨_, _, _, rfl, by first | exact hb0pp _ | exact hbpp⟩ hG hg) ?_
          refine runTf g'15 ?_
          refine cond_split (fun h6 => ?_) (fun h6 => ?_)
          · have h6d := bsT h6
            have h6n := bnT h6
            have hmf : mrkB (gi mks i) = false := by
              cases q : mrkB (gi mks i)
              · rfl
              · exact absurd (show meaE (gi mks i) = 0 by unfold meaE; rw [q]; rfl) (by first | exact h6d | simpa using h6d)
            have hfinE := swpE_2 hl32 hlt hmf
            have hfinM : meaE (gi mks i) = 2 := by unfold meaE; rw [hmf]; rfl
            have hfinL := swpL2_n (W := W) (Hh := Hh) (xs := xs) (x := x) (y := y) (h := h) (g := g) (ers := ers) (show ¬ swpE mks = 0 by rw [hfinE]; decide)
            have g'16 := (jn @h6 (jn @h6n (jn @int_bne (jn @int_beq g'15))))
            refine runTf g'16 ?_
            refine hQ _ _ (end_byG (.inl rfl) hbel (x1 := .tup [.sl none 0 (some 0), .int .i64 (meaE (gi mks i))]) (l2 := [.cells false 2 []]) (.tup [.sl (some (H.length, 0)) 0 (some 0), .int .i64 (meaE (gi mks i))]) (resT Tryz.results19) [.cells false 2 []] rfl [3] (by decide) ⟨by first | (rw [hfinE, hfinL]; done) | (rw [hfinE, hfinL]; rfl) | (rw [hfinE, hfinL, hfinM]; rfl), by first | (rw [hfinL]; done) | (rw [hfinL]; rfl)⟩ ?_)
            exact absW
          · have h6d := bsT h6
            have h6n := bnT h6
            have hmt : mrkB (gi mks i) = true := by
              cases q : mrkB (gi mks i)
              · exact absurd (show ¬ meaE (gi mks i) = 0 by unfold meaE; rw [q]; decide) (not_not_intro (by first | exact h6d | simpa using h6d))
              · rfl
            have hmv : ∀ e : Int, meaV W Hh xs x y h g (gi mks i) e = meaZ W Hh xs x y h g (gi mks i) e := fun e => if_pos hmt
            have hst : swpB W Hh xs x y h g mks ers (i + 1) = swpB W Hh xs x y h g mks ers i ++ [(gi mks i, meaZ W Hh xs x y h g (gi mks i) (gi ers i))] := rfl
            have q7 := ints_get (k := .i64) (xs := mks) (j := i) (by omega)
            have g'17 := (jn @h6 (jn @h6n (jn @int_bne (jn @int_beq (jn @q7 (jn @capG_s g'15))))))
            refine runTf g'17 ?_
            refine hJ0 _ _ ⟨k0 - 1, by omega, _, _, _, ⟨i + 1, by omega, fun j hj => by
                        rcases Nat.lt_or_ge j i with h | h
                        · exact hal j h
                        · rw [show j = i by omega]; exact hmt, rfl, rfl⟩, Abs.byG hbel [] rfl [0, 1, 4] (by decide) ?_⟩
            exact absRf (jn @hst (jn @hsg @hmv))
        · have h3d := bsT h3
          have hsg : gi ers i = 0 := gi_out (by omega)
          have q8 := ints_get (k := .i64) (xs := mks) (j := i) (by omega)
          have g'18 := (jn @h3 (jn @h3d (jn @q8 g'14)))
          refine runTf g'18 ?_
          refine call_d (by kernel_rfl) (rmeas_c _ W Hh _ xs x y h (gi mks i) g 0 ⟨_, _, _, rfl, by first | exact hb0pp _ | exact hbpp⟩ hG hg) ?_
          refine runTf g'18 ?_
          refine cond_split (fun h9 => ?_) (fun h9 => ?_)
          · have h9d := bsT h9
            have h9n := bnT h9
            have hmf : mrkB (gi mks i) = false := by
              cases q : mrkB (gi mks i)
              · rfl
              · exact absurd (show meaE (gi mks i) = 0 by unfold meaE; rw [q]; rfl) (by first | exact h9d | simpa using h9d)
            have hfinE := swpE_2 hl32 hlt hmf
            have hfinM : meaE (gi mks i) = 2 := by unfold meaE; rw [hmf]; rfl
            have hfinL := swpL2_n (W := W) (Hh := Hh) (xs := xs) (x := x) (y := y) (h := h) (g := g) (ers := ers) (show ¬ swpE mks = 0 by rw [hfinE]; decide)
            have g'19 := (jn @h9 (jn @h9n (jn @int_bne (jn @int_beq g'18))))
            refine runTf g'19 ?_
            refine hQ _ _ (end_byG (.inl rfl) hbel (x1 := .tup [.sl none 0 (some 0), .int .i64 (meaE (gi mks i))]) (l2 := [.cells false 2 []]) (.tup [.sl (some (H.length, 0)) 0 (some 0), .int .i64 (meaE (gi mks i))]) (resT Tryz.results19) [.cells false 2 []] rfl [3] (by decide) ⟨by first | (rw [hfinE, hfinL]; done) | (rw [hfinE, hfinL]; rfl) | (rw [hfinE, hfinL, hfinM]; rfl), by first | (rw [hfinL]; done) | (rw [hfinL]; rfl)⟩ ?_)
            exact absW
          · have h9d := bsT h9
            have h9n := bnT h9
            have hmt : mrkB (gi mks i) = true := by
              cases q : mrkB (gi mks i)
              · exact absurd (show ¬ meaE (gi mks i) = 0 by unfold meaE; rw [q]; decide) (not_not_intro (by first | exact h9d | simpa using h9d))
              · rfl
            have hmv : ∀ e : Int, meaV W Hh xs x y h g (gi mks i) e = meaZ W Hh xs x y h g (gi mks i) e := fun e => if_pos hmt
            have hst : swpB W Hh xs x y h g mks ers (i + 1) = swpB W Hh xs x y h g mks ers i ++ [(gi mks i, meaZ W Hh xs x y h g (gi mks i) (gi ers i))] := rfl
            have q10 := ints_get (k := .i64) (xs := mks) (j := i) (by omega)
            have g'20 := (jn @h9 (jn @h9n (jn @int_bne (jn @int_beq (jn @q10 (jn @capG_s g'18))))))
            refine runTf g'20 ?_
            refine hJ0 _ _ ⟨k0 - 1, by omega, _, _, _, ⟨i + 1, by omega, fun j hj => by
                        rcases Nat.lt_or_ge j i with h | h
                        · exact hal j h
                        · rw [show j = i by omega]; exact hmt, rfl, rfl⟩, Abs.byG hbel [] rfl [0, 1, 4] (by decide) ?_⟩
            exact absRf (jn @hst (jn @hsg @hmv))
      · have h2d := bsT h2
        obtain rfl : i = mks.length := by omega
        have hfinE := swpE_0 hl32 hal
        have hfinL := swpL2_y (W := W) (Hh := Hh) (xs := xs) (x := x) (y := y) (h := h) (g := g) (ers := ers) hfinE
        have g'21 := (jn @h2 (jn @h2d g'13))
        refine runTf g'21 ?_
        refine hQ _ _ (end_byG (.inl rfl) hbel (x1 := .tup [.sl (some (H.length + 2, 0)) ((swpB W Hh xs x y h g mks ers mks.length).length) (capG (swpB W Hh xs x y h g mks ers mks.length).length), .int .i64 0]) (l2 := [.cells (ownG (swpB W Hh xs x y h g mks ers mks.length).length) 2 (prs (swpB W Hh xs x y h g mks ers mks.length))]) (.tup [.sl (some (H.length, 0)) ((swpB W Hh xs x y h g mks ers mks.length).length) (capG (swpB W Hh xs x y h g mks ers mks.length).length), .int .i64 0]) (resT Tryz.results19) [] rfl [2] (by decide) ⟨by first | (rw [hfinE, hfinL]; done) | (rw [hfinE, hfinL]; rfl) | (rw [hfinE, hfinL, hfinM]; rfl), by first | (rw [hfinL]; done) | (rw [hfinL]; rfl)⟩ ?_)
        exact absW
open Go.RowKit
theorem around_c (H : AHeap) (ax : Int) (ay : Int) (ah : Int) (z : Nat) (h1 : 0 ≤ ax ∧ ax ≤ 4096) (h2 : 0 ≤ ay ∧ ay ≤ 4096) (h3 : 0 ≤ ah ∧ ah ≤ 255) (h4 : z ≤ 1000) : ACalls Tryz.prog 21 [.agg [.int .i64 ax, .int .i64 ay, .int .i64 ah], .int .i64 ((z : Nat) : Int)] H (fun v H' => v = .agg [.int .i64 ((aroB ax ay ah z).1), .int .i64 ((aroB ax ay ah z).2.1), .int .i64 ((aroB ax ay ah z).2.2.1), .int .i64 ((aroB ax ay ah z).2.2.2.1), .int .i64 ((aroB ax ay ah z).2.2.2.2.1), .int .i64 ((aroB ax ay ah z).2.2.2.2.2)] ∧ H' = H) := by
  refine AcT true Tryz.func21 ?_; intro hbel Q hQ
  have g'1 := (jn @rem_nat9 (jn @quo_nat9 @quo_nat81))
  refine runTf g'1 ?_
  refine call_v (by kernel_rfl) (bmod_c _ (ax + (3 * ay)) 3 (by omega) (by omega)) ?_
  refine runTf g'1 ?_
  refine call_d (by kernel_rfl) (bmod_c _ (ah - ((((ax + (3 * ay)) % 3).toNat : Nat) : Int)) 256 (by omega) (by omega)) ?_
  refine runTf g'1 ?_
  exact hQ _ _ (end_plain (.inl rfl) hbel (x := .agg [.int .i64 (ax - ((z % 9 : Nat) : Int)), .int .i64 (ay - (((z / 9) % 9 : Nat) : Int)), .int .i64 (ax + (((z / 81) % 9 : Nat) : Int)), .int .i64 (ay + ((((ax + (3 * ay)) % 3).toNat : Nat) : Int)), .int .i64 ((((ah - ((((ax + (3 * ay)) % 3).toNat : Nat) : Int)) % 256).toNat : Nat) : Int), .int .i64 ((2 * ((((ax + (3 * ay)) % 3).toNat : Nat) : Int)) + 1)]) (resT Tryz.results21) rfl ⟨rfl, rfl⟩)
theorem ltru_c (H : AHeap) (W : Int) (Hh : Int) (pp : AV) (xs : List Int) (ax : Int) (ay : Int) (ah : Int) (t : Int) (f : Int) (eT : Int) (eL : Int) (eX : Int) (eY : Int) (mk : AV) (mks : List Int) (er : AV) (ers : List Int) (hpp : Sl H 1 pp xs.length (ints .u8 xs)) (hmk : Sl H 1 mk mks.length (ints .i64 mks)) (her : Sl H 1 er ers.length (ints .i64 ers)) (hp0 : ∀ z ∈ xs, 0 ≤ z) : ACalls Tryz.prog 3 [.agg [.int .i64 W, .int .i64 Hh, pp], .agg [.int .i64 ax, .int .i64 ay, .int .i64 ah], .agg [.int .i64 t, .int .i64 f, .int .i64 eT, .int .i64 eL, .int .i64 eX, .int .i64 eY, mk, er]] H (fun v H' => v = .bool true ∧ H' = H) := by
  obtain ⟨bpp, opp, cpp, rfl, hbpp⟩ := hpp
  have hblpp := getElem?_lt hbpp
  have hb0pp := fun l => get_app (l := l) hbpp
  obtain ⟨bmk, omk, cmk, rfl, hbmk⟩ := hmk
  have hblmk := getElem?_lt hbmk
  have hb0mk := fun l => get_app (l := l) hbmk
  obtain ⟨ber, oer, cer, rfl, hber⟩ := her
  have hbler := getElem?_lt hber
  have hb0er := fun l => get_app (l := l) hber
  (refine ACalls_pieces Tryz.func3 _ rfl (Nat.le_of_ble_eq_true (by kernel_rfl)) rfl ?_; intro hbel Q hQ hQ' c hc; unfold Tryz.f3 at hc; simp only [Option.some.injEq] at hc; subst hc; clear hQ')
  refine AW_step false try_mixed (by kernel_rfl) (fun F Hx => look F 3 = .ptr (some (H.length, 0)) ∧ look F 4 = .ptr (some (H.length + 1, 0)) ∧ look F 5 = .ptr (some (H.length + 2, 0)) ∧ look F 6 = .bool false ∧ Hx = H ++ [.cells true 0 [.int .i64 W, .int .i64 Hh, .sl (some (bpp, 0)) xs.length cpp], .cells true 0 [.int .i64 ax, .int .i64 ay, .int .i64 ah], .cells true 0 [.int .i64 t, .int .i64 f, .int .i64 eT, .int .i64 eL, .int .i64 eX, .int .i64 eY, .sl (some (bmk, 0)) mks.length cmk, .sl (some (ber, 0)) ers.length cer]]) ?_ ?_
  · skip
    have g'2 := (jn @hbpp (jn @hb0pp (jn @hbmk (jn @hb0mk (jn @hber @hb0er)))))
    refine runTf g'2 ?_
    refine inv_of ?_
    exact absT
  rintro F Hx ⟨f1, f2, f3, f4, rfl⟩
  refine AW_step false try_mixed (by kernel_rfl) (fun F Hx => (decide (400 < ((xs.length : Nat) : Int))) = false ∧ bldB W Hh xs = true ∧ gooB W Hh xs ax ay ah = true ∧ (decide (8 < ((mks.length : Nat) : Int))) = false ∧ (decide (40 < ((ers.length : Nat) : Int))) = false ∧ look F 3 = .ptr (some (H.length, 0)) ∧ look F 4 = .ptr (some (H.length + 1, 0)) ∧ look F 5 = .ptr (some (H.length + 2, 0)) ∧ look F 6 = .bool false ∧ Hx = H ++ [.cells true 0 [.int .i64 W, .int .i64 Hh, .sl (some (bpp, 0)) xs.length cpp], .cells true 0 [.int .i64 ax, .int .i64 ay, .int .i64 ah], .cells true 0 [.int .i64 t, .int .i64 f, .int .i64 eT, .int .i64 eL, .int .i64 eX, .int .i64 eY, .sl (some (bmk, 0)) mks.length cmk, .sl (some (ber, 0)) ers.length cer]]) ?_ ?_
  · skip
    have g'3 := (jn @hbpp (jn @hb0pp (jn @hbmk (jn @hb0mk (jn @hber (jn @hb0er (jn @f1 (jn @f2 (jn @f3 @f4)))))))))
    refine runTf g'3 ?_
    refine call_v (by kernel_rfl) (awake_c _) ?_
    refine runTf g'3 ?_
    refine gd_split (fun h5 => ?_) (fun h5 => ?_)
    · have h5d := bsT h5
      have g'4 := (jn @h5 (jn @h5d g'3))
      refine runTf g'4 ?_
      refine call_v (by kernel_rfl) (bld_c _ W Hh _ xs ⟨_, _, _, rfl, by first | exact hb0pp _ | exact hbpp⟩) ?_
      refine runTf g'4 ?_
      refine gd_split (fun h6 => ?_) (fun h6 => ?_)
      · have h6d := bsT h6
        have g'5 := (jn @h6 (jn @h6d g'4))
        refine runTf g'5 ?_
        refine call_v (by kernel_rfl) (rgood_c _ W Hh _ xs ax ay ah ⟨_, _, _, rfl, by first | exact hb0pp _ | exact hbpp⟩) ?_
        refine runTf g'5 ?_
        refine gd_split (fun h7 => ?_) (fun h7 => ?_)
        · have h7d := bsT h7
          have g'6 := (jn @h7 (jn @h7d g'5))
          refine runTf g'6 ?_
          refine gd_split (fun h8 => ?_) (fun h8 => ?_)
          · have h8d := bsT h8
            have g'7 := (jn @h8 (jn @h8d g'6))
            refine runTf g'7 ?_
            refine cond_split (fun h9 => ?_) (fun h9 => ?_)
            · have h9d := bsT h9
              have g'8 := (jn @h9 (jn @h9d g'7))
              refine runTf g'8 ?_
              refine call_v (by kernel_rfl) (awake_c _) ?_
              refine runTf g'8 ?_
              exact hQ _ _ (end_plain (.inl rfl) hbel (x := .bool true) (resTf (jn @f1 (jn @f2 (jn @f3 @f4))) Tryz.results3) rfl ⟨rfl, rfl⟩)
            · have h9d := bsT h9
              have g'9 := (jn @h9 (jn @h9d g'7))
              refine runTf g'9 ?_
              refine inv_of ?_
              exact absTf (jn @f1 (jn @f2 (jn @f3 @f4)))
          · have h8d := bsT h8
            have g'10 := (jn @h8 (jn @h8d g'6))
            refine runTf g'10 ?_
            refine call_v (by kernel_rfl) (awake_c _) ?_
            refine runTf g'10 ?_
            exact hQ _ _ (end_plain (.inl rfl) hbel (x := .bool true) (resTf (jn @f1 (jn @f2 (jn @f3 @f4))) Tryz.results3) rfl ⟨rfl, rfl⟩)
        · have h7d := bsT h7
          have g'11 := (jn @h7 (jn @h7d g'5))
          refine runTf g'11 ?_
          refine call_v (by kernel_rfl) (awake_c _) ?_
          refine runTf g'11 ?_
          exact hQ _ _ (end_plain (.inl rfl) hbel (x := .bool true) (resTf (jn @f1 (jn @f2 (jn @f3 @f4))) Tryz.results3) rfl ⟨rfl, rfl⟩)
      · have h6d := bsT h6
        have g'12 := (jn @h6 (jn @h6d g'4))
        refine runTf g'12 ?_
        refine call_v (by kernel_rfl) (awake_c _) ?_
        refine runTf g'12 ?_
        exact hQ _ _ (end_plain (.inl rfl) hbel (x := .bool true) (resTf (jn @f1 (jn @f2 (jn @f3 @f4))) Tryz.results3) rfl ⟨rfl, rfl⟩)
    · have h5d := bsT h5
      have g'13 := (jn @h5 (jn @h5d g'3))
      refine runTf g'13 ?_
      refine call_v (by kernel_rfl) (awake_c _) ?_
      refine runTf g'13 ?_
      exact hQ _ _ (end_plain (.inl rfl) hbel (x := .bool true) (resTf (jn @f1 (jn @f2 (jn @f3 @f4))) Tryz.results3) rfl ⟨rfl, rfl⟩)
  rintro F Hx ⟨h10d, h11d, h12d, h13d, h14d, f15, f16, f17, f18, rfl⟩
  have hB := h11d
  have hG := h12d
  have hl4 : xs.length ≤ 400 := by have q := of_decide_eq_false h10d; omega
  have hl8 : mks.length ≤ 8 := by have q := of_decide_eq_false h13d; omega
  have hl40 : ers.length ≤ 40 := by have q := of_decide_eq_false h14d; omega
  have hGq := hG
  unfold gooB at hGq
  rw [Bool.and_eq_true, inpB_iff] at hGq
  obtain ⟨⟨hV, hgx, hgy⟩, hgP⟩ := hGq
  have hVV := vld_iff.1 hV
  have hw1 := hVV.w1
  have hh1 := hVV.h1
  have hbt := btw_iff.1 (poseB_iff.1 hgP).2
  have hgr : 1 ≤ 1 + (((eL % 32).toNat : Nat) : Int) ∧ 1 + (((eL % 32).toNat : Nat) : Int) ≤ 32 := by omega
  have hmain := ktrue_main (z := ((eY % 1000).toNat)) (eX := eX) (mks := mks) (ers := ers) hB hG hp0 hgr
  have hblw := hmain.2
  have hsw9 : (swpL2 W Hh xs ax ay ah (1 + (((eL % 32).toNat : Nat) : Int)) mks ers).length ≤ 1000000000 := by have q := (scnB_iff.1 (swpL2_ok (xs := xs) (x := ax) (y := ay) (h := ah) (g := 1 + (((eL % 32).toNat : Nat) : Int)) (mks := mks) (ers := ers) hVV.h0 hVV.w0 hgr).1).1; omega
  have hlen := hmain.2.1
  refine AW_step false try_mixed (by kernel_rfl) (fun F Hx => look F 3 = .ptr (some (H.length, 0)) ∧ look F 4 = .ptr (some (H.length + 1, 0)) ∧ look F 5 = .ptr (some (H.length + 2, 0)) ∧ look F 6 = .bool false ∧ look F 7 = .int .i64 (1 + (((eL % 32).toNat : Nat) : Int)) ∧ Hx = H ++ [.cells true 0 [.int .i64 W, .int .i64 Hh, .sl (some (bpp, 0)) xs.length cpp], .cells true 0 [.int .i64 ax, .int .i64 ay, .int .i64 ah], .cells true 0 [.int .i64 t, .int .i64 f, .int .i64 eT, .int .i64 eL, .int .i64 eX, .int .i64 eY, .sl (some (bmk, 0)) mks.length cmk, .sl (some (ber, 0)) ers.length cer]]) ?_ ?_
  · skip
    have g'14 := (jn @hbpp (jn @hb0pp (jn @hbmk (jn @hb0mk (jn @hber (jn @hb0er (jn @f1 (jn @f2 (jn @f3 (jn @f4 (jn @f15 (jn @f16 (jn @f17 (jn @f18 (jn @h10d (jn @h11d (jn @h12d (jn @h13d @h14d))))))))))))))))))
    refine runTf g'14 ?_
    refine call_v (by kernel_rfl) (bmod_c _ eL 32 (by omega) (by omega)) ?_
    refine runTf g'14 ?_
    refine inv_of ?_
    exact absTf (jn @f1 (jn @f2 (jn @f3 (jn @f4 (jn @f15 (jn @f16 (jn @f17 @f18)))))))
  rintro F Hx ⟨f19, f20, f21, f22, f23, rfl⟩
  refine AW_step false try_mixed (by kernel_rfl) (fun F Hx => look F 3 = .ptr (some (H.length, 0)) ∧ look F 4 = .ptr (some (H.length + 1, 0)) ∧ look F 5 = .ptr (some (H.length + 2, 0)) ∧ look F 6 = .bool false ∧ look F 7 = .int .i64 (1 + (((eL % 32).toNat : Nat) : Int)) ∧ look F 8 = .sl (some (H.length + 3, 0)) ((swpL2 W Hh xs ax ay ah (1 + (((eL % 32).toNat : Nat) : Int)) mks ers).length) (capG (swpL2 W Hh xs ax ay ah (1 + (((eL % 32).toNat : Nat) : Int)) mks ers).length) ∧ look F 9 = .int .i64 (swpE mks) ∧ Hx = H ++ [.cells true 0 [.int .i64 W, .int .i64 Hh, .sl (some (bpp, 0)) xs.length cpp], .cells true 0 [.int .i64 ax, .int .i64 ay, .int .i64 ah], .cells true 0 [.int .i64 t, .int .i64 f, .int .i64 eT, .int .i64 eL, .int .i64 eX, .int .i64 eY, .sl (some (bmk, 0)) mks.length cmk, .sl (some (ber, 0)) ers.length cer], .cells (ownG (swpL2 W Hh xs ax ay ah (1 + (((eL % 32).toNat : Nat) : Int)) mks ers).length) 2 (prs (swpL2 W Hh xs ax ay ah (1 + (((eL % 32).toNat : Nat) : Int)) mks ers))]) ?_ ?_
  · skip
    have g'15 := (jn @hbpp (jn @hb0pp (jn @hbmk (jn @hb0mk (jn @hber (jn @hb0er (jn @f1 (jn @f2 (jn @f3 (jn @f4 (jn @f15 (jn @f16 (jn @f17 (jn @f18 (jn @h10d (jn @h11d (jn @h12d (jn @h13d (jn @h14d (jn @f19 (jn @f20 (jn @f21 (jn @f22 @f23)))))))))))))))))))))))
    refine runTf g'15 ?_
    refine call_v (by kernel_rfl) (rsweep_c _ W Hh _ xs ax ay ah _ mks (1 + (((eL % 32).toNat : Nat) : Int)) _ ers ⟨_, _, _, rfl, by first | exact hb0pp _ | exact hbpp⟩ ⟨_, _, _, rfl, by first | exact hb0mk _ | exact hbmk⟩ ⟨_, _, _, rfl, by first | exact hb0er _ | exact hber⟩ (by assumption) (by omega) (by omega)) ?_
    refine runTf g'15 ?_
    refine inv_of ?_
    exact absTf (jn @f1 (jn @f2 (jn @f3 (jn @f4 (jn @f15 (jn @f16 (jn @f17 (jn @f18 (jn @f19 (jn @f20 (jn @f21 (jn @f22 @f23))))))))))))
  rintro F Hx ⟨f24, f25, f26, f27, f28, f29, f30, rfl⟩
  refine AW_step false try_mixed (by kernel_rfl) (fun F Hx => ((swpE mks) != 0) = false ∧ look F 3 = .ptr (some (H.length, 0)) ∧ look F 4 = .ptr (some (H.length + 1, 0)) ∧ look F 5 = .ptr (some (H.length + 2, 0)) ∧ look F 6 = .bool false ∧ look F 7 = .int .i64 (1 + (((eL % 32).toNat : Nat) : Int)) ∧ look F 8 = .sl (some (H.length + 3, 0)) ((swpL2 W Hh xs ax ay ah (1 + (((eL % 32).toNat : Nat) : Int)) mks ers).length) (capG (swpL2 W Hh xs ax ay ah (1 + (((eL % 32).toNat : Nat) : Int)) mks ers).length) ∧ Hx = H ++ [.cells true 0 [.int .i64 W, .int .i64 Hh, .sl (some (bpp, 0)) xs.length cpp], .cells true 0 [.int .i64 ax, .int .i64 ay, .int .i64 ah], .cells true 0 [.int .i64 t, .int .i64 f, .int .i64 eT, .int .i64 eL, .int .i64 eX, .int .i64 eY, .sl (some (bmk, 0)) mks.length cmk, .sl (some (ber, 0)) ers.length cer], .cells (ownG (swpL2 W Hh xs ax ay ah (1 + (((eL % 32).toNat : Nat) : Int)) mks ers).length) 2 (prs (swpL2 W Hh xs ax ay ah (1 + (((eL % 32).toNat : Nat) : Int)) mks ers))]) ?_ ?_
  · skip
    have g'16 := (jn @hbpp (jn @hb0pp (jn @hbmk (jn @hb0mk (jn @hber (jn @hb0er (jn @f1 (jn @f2 (jn @f3 (jn @f4 (jn @f15 (jn @f16 (jn @f17 (jn @f18 (jn @h10d (jn @h11d (jn @h12d (jn @h13d (jn @h14d (jn @f19 (jn @f20 (jn @f21 (jn @f22 (jn @f23 (jn @f24 (jn @f25 (jn @f26 (jn @f27 (jn @f28 (jn @f29 @f30))))))))))))))))))))))))))))))
    refine runTf g'16 ?_
    refine cond_split (fun h31 => ?_) (fun h31 => ?_)
    · have h31d := bsT h31
      have h31n := bnT h31
      have g'17 := (jn @h31 (jn @h31n (jn @int_bne (jn @int_beq g'16))))
      refine runTf g'17 ?_
      exact hQ _ _ (end_plain (.inl rfl) hbel (x := .bool true) (resTf (jn @f1 (jn @f2 (jn @f3 (jn @f4 (jn @f15 (jn @f16 (jn @f17 (jn @f18 (jn @f19 (jn @f20 (jn @f21 (jn @f22 (jn @f23 (jn @f24 (jn @f25 (jn @f26 (jn @f27 (jn @f28 (jn @f29 @f30))))))))))))))))))) Tryz.results3) rfl ⟨rfl, rfl⟩)
    · have h31d := bsT h31
      have h31n := bnT h31
      have g'18 := (jn @h31 (jn @h31n (jn @int_bne (jn @int_beq g'16))))
      refine runTf g'18 ?_
      refine inv_of ?_
      exact absTf (jn @f1 (jn @f2 (jn @f3 (jn @f4 (jn @f15 (jn @f16 (jn @f17 (jn @f18 (jn @f19 (jn @f20 (jn @f21 (jn @f22 (jn @f23 (jn @f24 (jn @f25 (jn @f26 (jn @f27 (jn @f28 (jn @f29 @f30)))))))))))))))))))
  rintro F Hx ⟨h32d, f33, f34, f35, f36, f37, f38, rfl⟩
  refine AW_special false try_mixed [[0, 1, 2, 3, 4, 5, 6, 7, 8, 9, 10], [0, 1, 2, 3, 4, 5, 6, 9, 7, 8, 10]] (by kernel_rfl) (fun F2 H2 => F2 = [(3, .ptr (some (H.length, 0))), (4, .ptr (some (H.length + 1, 0))), (5, .ptr (some (H.length + 2, 0))), (6, .bool false), (7, .int .i64 (1 + (((eL % 32).toNat : Nat) : Int))), (8, .sl (some (H.length + 3, 0)) ((swpL2 W Hh xs ax ay ah (1 + (((eL % 32).toNat : Nat) : Int)) mks ers).length) (capG (swpL2 W Hh xs ax ay ah (1 + (((eL % 32).toNat : Nat) : Int)) mks ers).length)), (10, .ptr (some (H.length + 5, 0)))] ∧ H2 = H ++ [.cells true 0 [.int .i64 W, .int .i64 Hh, .sl (some (bpp, 0)) xs.length cpp], .cells true 0 [.int .i64 ax, .int .i64 ay, .int .i64 ah], .cells true 0 [.int .i64 t, .int .i64 f, .int .i64 eT, .int .i64 eL, .int .i64 eX, .int .i64 eY, .sl (some (bmk, 0)) mks.length cmk, .sl (some (ber, 0)) ers.length cer], .cells (ownG (swpL2 W Hh xs ax ay ah (1 + (((eL % 32).toNat : Nat) : Int)) mks ers).length) 2 (prs (swpL2 W Hh xs ax ay ah (1 + (((eL % 32).toNat : Nat) : Int)) mks ers)), .cells true 1 (ints .u8 (List.replicate xs.length 0)), .cells true 0 [.int .i64 W, .int .i64 Hh, .sl (some (H.length + 4, 0)) xs.length (some xs.length)]]) ?_ ?_
  · refine reps_cons ?_ (reps_cons ?_ (reps_nil)) <;> intro J hJ
    · skip
      have g'19 := (jn @hbpp (jn @hb0pp (jn @hbmk (jn @hb0mk (jn @hber (jn @hb0er (jn @f1 (jn @f2 (jn @f3 (jn @f4 (jn @f15 (jn @f16 (jn @f17 (jn @f18 (jn @h10d (jn @h11d (jn @h12d (jn @h13d (jn @h14d (jn @f19 (jn @f20 (jn @f21 (jn @f22 (jn @f23 (jn @f24 (jn @f25 (jn @f26 (jn @f27 (jn @f28 (jn @f29 (jn @f30 (jn @f33 (jn @f34 (jn @f35 (jn @f36 (jn @f37 (jn @f38 (jn @h32d (jn @ints_rep @List.length_replicate.{0})))))))))))))))))))))))))))))))))))))))
      refine runDf g'19 ?_
      refine inv_of (hJ _ _ ⟨_, _, _, ⟨rfl, rfl⟩, Abs.byG hbel [] rfl [0, 1, 2, 3, 4, 5] (by decide) ?_⟩)
      exact absRf (jn @f1 (jn @f2 (jn @f3 (jn @f4 (jn @f15 (jn @f16 (jn @f17 (jn @f18 (jn @f19 (jn @f20 (jn @f21 (jn @f22 (jn @f23 (jn @f24 (jn @f25 (jn @f26 (jn @f27 (jn @f28 (jn @f29 (jn @f30 (jn @f33 (jn @f34 (jn @f35 (jn @f36 (jn @f37 @f38)))))))))))))))))))))))))
    · skip
      have g'20 := (jn @hbpp (jn @hb0pp (jn @hbmk (jn @hb0mk (jn @hber (jn @hb0er (jn @f1 (jn @f2 (jn @f3 (jn @f4 (jn @f15 (jn @f16 (jn @f17 (jn @f18 (jn @h10d (jn @h11d (jn @h12d (jn @h13d (jn @h14d (jn @f19 (jn @f20 (jn @f21 (jn @f22 (jn @f23 (jn @f24 (jn @f25 (jn @f26 (jn @f27 (jn @f28 (jn @f29 (jn @f30 (jn @f33 (jn @f34 (jn @f35 (jn @f36 (jn @f37 (jn @f38 (jn @h32d (jn @ints_rep @List.length_replicate.{0})))))))))))))))))))))))))))))))))))))))
      refine runDf g'20 ?_
      refine inv_of (hJ _ _ ⟨_, _, _, ⟨rfl, rfl⟩, Abs.byG hbel [] rfl [0, 1, 2, 3, 5, 4] (by decide) ?_⟩)
      exact absRf (jn @f1 (jn @f2 (jn @f3 (jn @f4 (jn @f15 (jn @f16 (jn @f17 (jn @f18 (jn @f19 (jn @f20 (jn @f21 (jn @f22 (jn @f23 (jn @f24 (jn @f25 (jn @f26 (jn @f27 (jn @f28 (jn @f29 (jn @f30 (jn @f33 (jn @f34 (jn @f35 (jn @f36 (jn @f37 @f38)))))))))))))))))))))))))
  rintro F2 H2 ⟨rfl, rfl⟩
  refine AW_step false try_mixed (by kernel_rfl) (fun F Hx => (decide (xs.length < ((xs.length : Nat) : Int))) = false ∧ look F 3 = .ptr (some (H.length, 0)) ∧ look F 4 = .ptr (some (H.length + 1, 0)) ∧ look F 5 = .ptr (some (H.length + 2, 0)) ∧ look F 6 = .bool false ∧ look F 7 = .int .i64 (1 + (((eL % 32).toNat : Nat) : Int)) ∧ look F 8 = .sl (some (H.length + 3, 0)) ((swpL2 W Hh xs ax ay ah (1 + (((eL % 32).toNat : Nat) : Int)) mks ers).length) (capG (swpL2 W Hh xs ax ay ah (1 + (((eL % 32).toNat : Nat) : Int)) mks ers).length) ∧ look F 10 = .ptr (some (H.length + 5, 0)) ∧ Hx = H ++ [.cells true 0 [.int .i64 W, .int .i64 Hh, .sl (some (bpp, 0)) xs.length cpp], .cells true 0 [.int .i64 ax, .int .i64 ay, .int .i64 ah], .cells true 0 [.int .i64 t, .int .i64 f, .int .i64 eT, .int .i64 eL, .int .i64 eX, .int .i64 eY, .sl (some (bmk, 0)) mks.length cmk, .sl (some (ber, 0)) ers.length cer], .cells (ownG (swpL2 W Hh xs ax ay ah (1 + (((eL % 32).toNat : Nat) : Int)) mks ers).length) 2 (prs (swpL2 W Hh xs ax ay ah (1 + (((eL % 32).toNat : Nat) : Int)) mks ers)), .cells true 1 (ints .u8 (knsL xs eX xs.length)), .cells true 0 [.int .i64 W, .int .i64 Hh, .sl (some (H.length + 4, 0)) ((knsL xs eX xs.length).length) none]]) ?_ ?_
  · skip
    have g'21 := (jn @hbpp (jn @hb0pp (jn @hbmk (jn @hb0mk (jn @hber (jn @hb0er (jn @h10d (jn @h11d (jn @h12d (jn @h13d (jn @h14d (jn @h32d (jn @prs_len (jn @prs_one (jn @ints_len @ints_ones)))))))))))))))
    refine runTf g'21 ?_
    refine go_loop try_mixed (by kernel_rfl) (fun k F Hx => ∃ i : Nat, i + k = xs.length ∧ F = [(3, .ptr (some (H.length, 0))), (4, .ptr (some (H.length + 1, 0))), (5, .ptr (some (H.length + 2, 0))), (6, .bool false), (7, .int .i64 (1 + (((eL % 32).toNat : Nat) : Int))), (8, .sl (some (H.length + 3, 0)) ((swpL2 W Hh xs ax ay ah (1 + (((eL % 32).toNat : Nat) : Int)) mks ers).length) (capG (swpL2 W Hh xs ax ay ah (1 + (((eL % 32).toNat : Nat) : Int)) mks ers).length)), (10, .ptr (some (H.length + 5, 0))), (11, .int .i64 ((i : Nat) : Int))] ∧ Hx = H ++ [.cells true 0 [.int .i64 W, .int .i64 Hh, .sl (some (bpp, 0)) xs.length cpp], .cells true 0 [.int .i64 ax, .int .i64 ay, .int .i64 ah], .cells true 0 [.int .i64 t, .int .i64 f, .int .i64 eT, .int .i64 eL, .int .i64 eX, .int .i64 eY, .sl (some (bmk, 0)) mks.length cmk, .sl (some (ber, 0)) ers.length cer], .cells (ownG (swpL2 W Hh xs ax ay ah (1 + (((eL % 32).toNat : Nat) : Int)) mks ers).length) 2 (prs (swpL2 W Hh xs ax ay ah (1 + (((eL % 32).toNat : Nat) : Int)) mks ers)), .cells true 1 (ints .u8 (knsL xs eX i)), .cells true 0 [.int .i64 W, .int .i64 Hh, .sl (some (H.length + 4, 0)) ((knsL xs eX i).length) none]]) (xs.length) ?_ ?_
    · refine ⟨_, _, _, ⟨0, by omega, rfl, rfl⟩, Abs.byG hbel [] rfl [0, 1, 2, 3, 4, 5] (by decide) ?_⟩
      exact absRf (jn @knsL.eq_1 @List.length_replicate.{0})
    · rintro k0 F Hx ⟨i, hm0, rfl, rfl⟩ J0 hJ0
      refine runTf g'21 ?_
      refine cond_split (fun h39 => ?_) (fun h39 => ?_)
      · have h39d := bsT h39
        have hlt : i < xs.length := by omega
        have hsl := (knsL_bel xs eX i (by omega)).1
        have g'22 := (jn @h39 (jn @h39d g'21))
        refine runTf g'22 ?_
        refine call_v (by kernel_rfl) (bmod_c _ (IntKind.i64.wrap (eX + ((i : Nat) : Int))) 3 (by omega) (by omega)) ?_
        refine runTf g'22 ?_
        refine cond_split (fun h40 => ?_) (fun h40 => ?_)
        · have h40d := bsT h40
          have h40n := bnT h40
          have hst := knsL_t (xs := xs) (c := eX) (i := i) (by first | exact beq_iff_eq.2 h40d | exact h40d)
          have q41 := ints_get (k := .u8) (xs := xs) (j := i) (by omega)
          have g'23 := (jn @h40 (jn @h40n (jn @int_bne (jn @int_beq (jn @q41 (jn @ints_set1 (jn @List.length_set.{0} g'22)))))))
          refine runTf g'23 ?_
          refine hJ0 _ _ ⟨k0 - 1, by omega, _, _, _, ⟨i + 1, by omega, rfl, rfl⟩, Abs.byG hbel [] rfl [0, 1, 2, 3, 4, 5] (by decide) ?_⟩
          exact absRf (jn @hst @List.length_set.{0})
        · have h40d := bsT h40
          have h40n := bnT h40
          have hst := knsL_f (xs := xs) (c := eX) (i := i) (by first | exact beq_eq_false_iff_ne.2 h40d | exact h40d)
          have g'24 := (jn @h40 (jn @h40n (jn @int_bne (jn @int_beq g'22))))
          refine runTf g'24 ?_
          refine hJ0 _ _ ⟨k0 - 1, by omega, _, _, _, ⟨i + 1, by omega, rfl, rfl⟩, Abs.byG hbel [] rfl [0, 1, 2, 3, 4, 5] (by decide) ?_⟩
          exact absRf (jn @hst @List.length_set.{0})
      · have h39d := bsT h39
        obtain rfl : i = xs.length := by omega
        have g'25 := (jn @h39 (jn @h39d g'21))
        refine runTf g'25 ?_
        refine inv_of ?_
        exact absT
  rintro F Hx ⟨h42d, f43, f44, f45, f46, f47, f48, f49, rfl⟩
  refine AW_special false try_mixed [[0, 1, 2, 3, 4, 5, 6, 7, 8, 9, 10, 11, 12, 13, 14, 15, 16], [0, 1, 2, 3, 4, 5, 6, 7, 8, 9, 14, 10, 11, 12, 13, 15, 16], [0, 1, 2, 3, 4, 5, 6, 8, 9, 14, 7, 10, 11, 12, 13, 15, 16], [0, 1, 2, 3, 4, 5, 8, 9, 14, 6, 7, 10, 11, 12, 13, 15, 16], [0, 1, 2, 3, 4, 8, 9, 14, 5, 6, 7, 10, 11, 12, 13, 15, 16]] (by kernel_rfl) (fun F2 H2 => F2 = [(3, .ptr (some (H.length, 0))), (6, .bool false), (12, .ptr (some (H.length + 2, 0))), (13, .int .i64 (lnE W Hh (knsL xs eX xs.length) [((aroB ax ay ah ((eY % 1000).toNat)).1, (aroB ax ay ah ((eY % 1000).toNat)).2.1, (aroB ax ay ah ((eY % 1000).toNat)).2.2.1, (aroB ax ay ah ((eY % 1000).toNat)).2.2.2.1, (aroB ax ay ah ((eY % 1000).toNat)).2.2.2.2.1, (aroB ax ay ah ((eY % 1000).toNat)).2.2.2.2.2)] (swpL2 W Hh xs ax ay ah (1 + (((eL % 32).toNat : Nat) : Int)) mks ers) (1 + (((eL % 32).toNat : Nat) : Int))))] ∧ H2 = H ++ [.cells true 0 [.int .i64 W, .int .i64 Hh, .sl (some (bpp, 0)) xs.length cpp], .cells (ownG (lnX W Hh (knsL xs eX xs.length) [((aroB ax ay ah ((eY % 1000).toNat)).1, (aroB ax ay ah ((eY % 1000).toNat)).2.1, (aroB ax ay ah ((eY % 1000).toNat)).2.2.1, (aroB ax ay ah ((eY % 1000).toNat)).2.2.2.1, (aroB ax ay ah ((eY % 1000).toNat)).2.2.2.2.1, (aroB ax ay ah ((eY % 1000).toNat)).2.2.2.2.2)] (swpL2 W Hh xs ax ay ah (1 + (((eL % 32).toNat : Nat) : Int)) mks ers) (1 + (((eL % 32).toNat : Nat) : Int))).length) 1 (ints .u8 (lnX W Hh (knsL xs eX xs.length) [((aroB ax ay ah ((eY % 1000).toNat)).1, (aroB ax ay ah ((eY % 1000).toNat)).2.1, (aroB ax ay ah ((eY % 1000).toNat)).2.2.1, (aroB ax ay ah ((eY % 1000).toNat)).2.2.2.1, (aroB ax ay ah ((eY % 1000).toNat)).2.2.2.2.1, (aroB ax ay ah ((eY % 1000).toNat)).2.2.2.2.2)] (swpL2 W Hh xs ax ay ah (1 + (((eL % 32).toNat : Nat) : Int)) mks ers) (1 + (((eL % 32).toNat : Nat) : Int)))), .cells true 0 [.int .i64 (lnZ W Hh (knsL xs eX xs.length) [((aroB ax ay ah ((eY % 1000).toNat)).1, (aroB ax ay ah ((eY % 1000).toNat)).2.1, (aroB ax ay ah ((eY % 1000).toNat)).2.2.1, (aroB ax ay ah ((eY % 1000).toNat)).2.2.2.1, (aroB ax ay ah ((eY % 1000).toNat)).2.2.2.2.1, (aroB ax ay ah ((eY % 1000).toNat)).2.2.2.2.2)] (swpL2 W Hh xs ax ay ah (1 + (((eL % 32).toNat : Nat) : Int)) mks ers) (1 + (((eL % 32).toNat : Nat) : Int)) W), .int .i64 (lnZ W Hh (knsL xs eX xs.length) [((aroB ax ay ah ((eY % 1000).toNat)).1, (aroB ax ay ah ((eY % 1000).toNat)).2.1, (aroB ax ay ah ((eY % 1000).toNat)).2.2.1, (aroB ax ay ah ((eY % 1000).toNat)).2.2.2.1, (aroB ax ay ah ((eY % 1000).toNat)).2.2.2.2.1, (aroB ax ay ah ((eY % 1000).toNat)).2.2.2.2.2)] (swpL2 W Hh xs ax ay ah (1 + (((eL % 32).toNat : Nat) : Int)) mks ers) (1 + (((eL % 32).toNat : Nat) : Int)) Hh), .sl (some (H.length + 1, 0)) ((lnX W Hh (knsL xs eX xs.length) [((aroB ax ay ah ((eY % 1000).toNat)).1, (aroB ax ay ah ((eY % 1000).toNat)).2.1, (aroB ax ay ah ((eY % 1000).toNat)).2.2.1, (aroB ax ay ah ((eY % 1000).toNat)).2.2.2.1, (aroB ax ay ah ((eY % 1000).toNat)).2.2.2.2.1, (aroB ax ay ah ((eY % 1000).toNat)).2.2.2.2.2)] (swpL2 W Hh xs ax ay ah (1 + (((eL % 32).toNat : Nat) : Int)) mks ers) (1 + (((eL % 32).toNat : Nat) : Int))).length) none]]) ?_ ?_
  · refine reps_cons ?_ (reps_cons ?_ (reps_cons ?_ (reps_cons ?_ (reps_cons ?_ (reps_nil))))) <;> intro J hJ
    · skip
      have g'26 := (jn @hbpp (jn @hb0pp (jn @hbmk (jn @hb0mk (jn @hber (jn @hb0er (jn @h10d (jn @h11d (jn @h12d (jn @h13d (jn @h14d (jn @h32d (jn @prs_len (jn @prs_one (jn @ints_len (jn @ints_ones (jn @f43 (jn @f44 (jn @f45 (jn @f46 (jn @f47 (jn @f48 (jn @f49 @h42d)))))))))))))))))))))))
      refine runDf g'26 ?_
      refine call_d (by kernel_rfl) (bmod_c _ eY 1000 (by omega) (by omega)) ?_
      refine runDf g'26 ?_
      refine call_d (by kernel_rfl) (around_c _ ax ay ah ((eY % 1000).toNat) (by omega) (by omega) (by omega) (by omega)) ?_
      refine runDf g'26 ?_
      refine call_x (by kernel_rfl) (by simp) (learn_c _ W Hh _ (knsL xs eX xs.length) _ [((aroB ax ay ah ((eY % 1000).toNat)).1, (aroB ax ay ah ((eY % 1000).toNat)).2.1, (aroB ax ay ah ((eY % 1000).toNat)).2.2.1, (aroB ax ay ah ((eY % 1000).toNat)).2.2.2.1, (aroB ax ay ah ((eY % 1000).toNat)).2.2.2.2.1, (aroB ax ay ah ((eY % 1000).toNat)).2.2.2.2.2)] _ (swpL2 W Hh xs ax ay ah (1 + (((eL % 32).toNat : Nat) : Int)) mks ers) (1 + (((eL % 32).toNat : Nat) : Int)) ⟨_, _, _, by first | rfl | (rw [List.length_append]; done) | (rw [List.length_append]; rfl), by first | rfl | (rw [get_newk]; rfl) | (rw [get_new0]; rfl) | (rw [get_newk, prs_append]; rfl) | (rw [get_new0, prs_append]; rfl)⟩ ⟨_, _, _, by first | rfl | (rw [List.length_append]; done) | (rw [List.length_append]; rfl), by first | rfl | (rw [get_newk]; rfl) | (rw [get_new0]; rfl) | (rw [get_newk, prs_append]; rfl) | (rw [get_new0, prs_append]; rfl)⟩ ⟨_, _, _, by first | rfl | (rw [List.length_append]; done) | (rw [List.length_append]; rfl), by first | rfl | (rw [get_newk]; rfl) | (rw [get_new0]; rfl) | (rw [get_newk, prs_append]; rfl) | (rw [get_new0, prs_append]; rfl)⟩ (by first | omega | simp) (by first | omega | simp)) ?_
      refine runDf g'26 ?_
      refine inv_of (hJ _ _ ⟨_, _, _, ⟨rfl, rfl⟩, Abs.byG hbel [] rfl [0, 7, 8] (by decide) ?_⟩)
      exact absRf (jn @f43 (jn @f44 (jn @f45 (jn @f46 (jn @f47 (jn @f48 @f49))))))
    · skip
      have g'27 := (jn @hbpp (jn @hb0pp (jn @hbmk (jn @hb0mk (jn @hber (jn @hb0er (jn @h10d (jn @h11d (jn @h12d (jn @h13d (jn @h14d (jn @h32d (jn @prs_len (jn @prs_one (jn @ints_len (jn @ints_ones (jn @f43 (jn @f44 (jn @f45 (jn @f46 (jn @f47 (jn @f48 (jn @f49 @h42d)))))))))))))))))))))))
      refine runDf g'27 ?_
      refine call_d (by kernel_rfl) (bmod_c _ eY 1000 (by omega) (by omega)) ?_
      refine runDf g'27 ?_
      refine call_d (by kernel_rfl) (around_c _ ax ay ah ((eY % 1000).toNat) (by omega) (by omega) (by omega) (by omega)) ?_
      refine runDf g'27 ?_
      refine call_x (by kernel_rfl) (by simp) (learn_c _ W Hh _ (knsL xs eX xs.length) _ [((aroB ax ay ah ((eY % 1000).toNat)).1, (aroB ax ay ah ((eY % 1000).toNat)).2.1, (aroB ax ay ah ((eY % 1000).toNat)).2.2.1, (aroB ax ay ah ((eY % 1000).toNat)).2.2.2.1, (aroB ax ay ah ((eY % 1000).toNat)).2.2.2.2.1, (aroB ax ay ah ((eY % 1000).toNat)).2.2.2.2.2)] _ (swpL2 W Hh xs ax ay ah (1 + (((eL % 32).toNat : Nat) : Int)) mks ers) (1 + (((eL % 32).toNat : Nat) : Int)) ⟨_, _, _, by first | rfl | (rw [List.length_append]; done) | (rw [List.length_append]; rfl), by first | rfl | (rw [get_newk]; rfl) | (rw [get_new0]; rfl) | (rw [get_newk, prs_append]; rfl) | (rw [get_new0, prs_append]; rfl)⟩ ⟨_, _, _, by first | rfl | (rw [List.length_append]; done) | (rw [List.length_append]; rfl), by first | rfl | (rw [get_newk]; rfl) | (rw [get_new0]; rfl) | (rw [get_newk, prs_append]; rfl) | (rw [get_new0, prs_append]; rfl)⟩ ⟨_, _, _, by first | rfl | (rw [List.length_append]; done) | (rw [List.length_append]; rfl), by first | rfl | (rw [get_newk]; rfl) | (rw [get_new0]; rfl) | (rw [get_newk, prs_append]; rfl) | (rw [get_new0, prs_append]; rfl)⟩ (by first | omega | simp) (by first | omega | simp)) ?_
      refine runDf g'27 ?_
      refine inv_of (hJ _ _ ⟨_, _, _, ⟨rfl, rfl⟩, Abs.byG hbel [] rfl [0, 8, 7] (by decide) ?_⟩)
      exact absRf (jn @f43 (jn @f44 (jn @f45 (jn @f46 (jn @f47 (jn @f48 @f49))))))
    · skip
      have g'28 := (jn @hbpp (jn @hb0pp (jn @hbmk (jn @hb0mk (jn @hber (jn @hb0er (jn @h10d (jn @h11d (jn @h12d (jn @h13d (jn @h14d (jn @h32d (jn @prs_len (jn @prs_one (jn @ints_len (jn @ints_ones (jn @f43 (jn @f44 (jn @f45 (jn @f46 (jn @f47 (jn @f48 (jn @f49 @h42d)))))))))))))))))))))))
      refine runDf g'28 ?_
      refine call_d (by kernel_rfl) (bmod_c _ eY 1000 (by omega) (by omega)) ?_
      refine runDf g'28 ?_
      refine call_d (by kernel_rfl) (around_c _ ax ay ah ((eY % 1000).toNat) (by omega) (by omega) (by omega) (by omega)) ?_
      refine runDf g'28 ?_
      refine call_x (by kernel_rfl) (by simp) (learn_c _ W Hh _ (knsL xs eX xs.length) _ [((aroB ax ay ah ((eY % 1000).toNat)).1, (aroB ax ay ah ((eY % 1000).toNat)).2.1, (aroB ax ay ah ((eY % 1000).toNat)).2.2.1, (aroB ax ay ah ((eY % 1000).toNat)).2.2.2.1, (aroB ax ay ah ((eY % 1000).toNat)).2.2.2.2.1, (aroB ax ay ah ((eY % 1000).toNat)).2.2.2.2.2)] _ (swpL2 W Hh xs ax ay ah (1 + (((eL % 32).toNat : Nat) : Int)) mks ers) (1 + (((eL % 32).toNat : Nat) : Int)) ⟨_, _, _, by first | rfl | (rw [List.length_append]; done) | (rw [List.length_append]; rfl), by first | rfl | (rw [get_newk]; rfl) | (rw [get_new0]; rfl) | (rw [get_newk, prs_append]; rfl) | (rw [get_new0, prs_append]; rfl)⟩ ⟨_, _, _, by first | rfl | (rw [List.length_append]; done) | (rw [List.length_append]; rfl), by first | rfl | (rw [get_newk]; rfl) | (rw [get_new0]; rfl) | (rw [get_newk, prs_append]; rfl) | (rw [get_new0, prs_append]; rfl)⟩ ⟨_, _, _, by first | rfl | (rw [List.length_append]; done) | (rw [List.length_append]; rfl), by first | rfl | (rw [get_newk]; rfl) | (rw [get_new0]; rfl) | (rw [get_newk, prs_append]; rfl) | (rw [get_new0, prs_append]; rfl)⟩ (by first | omega | simp) (by first | omega | simp)) ?_
      refine runDf g'28 ?_
      refine inv_of (hJ _ _ ⟨_, _, _, ⟨rfl, rfl⟩, Abs.byG hbel [] rfl [0, 8, 6] (by decide) ?_⟩)
      exact absRf (jn @f43 (jn @f44 (jn @f45 (jn @f46 (jn @f47 (jn @f48 @f49))))))
    · skip
      have g'29 := (jn @hbpp (jn @hb0pp (jn @hbmk (jn @hb0mk (jn @hber (jn @hb0er (jn @h10d (jn @h11d (jn @h12d (jn @h13d (jn @h14d (jn @h32d (jn @prs_len (jn @prs_one (jn @ints_len (jn @ints_ones (jn @f43 (jn @f44 (jn @f45 (jn @f46 (jn @f47 (jn @f48 (jn @f49 @h42d)))))))))))))))))))))))
      refine runDf g'29 ?_
      refine call_d (by kernel_rfl) (bmod_c _ eY 1000 (by omega) (by omega)) ?_
      refine runDf g'29 ?_
      refine call_d (by kernel_rfl) (around_c _ ax ay ah ((eY % 1000).toNat) (by omega) (by omega) (by omega) (by omega)) ?_
      refine runDf g'29 ?_
      refine call_x (by kernel_rfl) (by simp) (learn_c _ W Hh _ (knsL xs eX xs.length) _ [((aroB ax ay ah ((eY % 1000).toNat)).1, (aroB ax ay ah ((eY % 1000).toNat)).2.1, (aroB ax ay ah ((eY % 1000).toNat)).2.2.1, (aroB ax ay ah ((eY % 1000).toNat)).2.2.2.1, (aroB ax ay ah ((eY % 1000).toNat)).2.2.2.2.1, (aroB ax ay ah ((eY % 1000).toNat)).2.2.2.2.2)] _ (swpL2 W Hh xs ax ay ah (1 + (((eL % 32).toNat : Nat) : Int)) mks ers) (1 + (((eL % 32).toNat : Nat) : Int)) ⟨_, _, _, by first | rfl | (rw [List.length_append]; done) | (rw [List.length_append]; rfl), by first | rfl | (rw [get_newk]; rfl) | (rw [get_new0]; rfl) | (rw [get_newk, prs_append]; rfl) | (rw [get_new0, prs_append]; rfl)⟩ ⟨_, _, _, by first | rfl | (rw [List.length_append]; done) | (rw [List.length_append]; rfl), by first | rfl | (rw [get_newk]; rfl) | (rw [get_new0]; rfl) | (rw [get_newk, prs_append]; rfl) | (rw [get_new0, prs_append]; rfl)⟩ ⟨_, _, _, by first | rfl | (rw [List.length_append]; done) | (rw [List.length_append]; rfl), by first | rfl | (rw [get_newk]; rfl) | (rw [get_new0]; rfl) | (rw [get_newk, prs_append]; rfl) | (rw [get_new0, prs_append]; rfl)⟩ (by first | omega | simp) (by first | omega | simp)) ?_
      refine runDf g'29 ?_
      refine inv_of (hJ _ _ ⟨_, _, _, ⟨rfl, rfl⟩, Abs.byG hbel [] rfl [0, 8, 6] (by decide) ?_⟩)
      exact absRf (jn @f43 (jn @f44 (jn @f45 (jn @f46 (jn @f47 (jn @f48 @f49))))))
    · skip
      have g'30 := (jn @hbpp (jn @hb0pp (jn @hbmk (jn @hb0mk (jn @hber (jn @hb0er (jn @h10d (jn @h11d (jn @h12d (jn @h13d (jn @h14d (jn @h32d (jn @prs_len (jn @prs_one (jn @ints_len (jn @ints_ones (jn @f43 (jn @f44 (jn @f45 (jn @f46 (jn @f47 (jn @f48 (jn @f49 @h42d)))))))))))))))))))))))
      refine runDf g'30 ?_
      refine call_d (by kernel_rfl) (bmod_c _ eY 1000 (by omega) (by omega)) ?_
      refine runDf g'30 ?_
      refine call_d (by kernel_rfl) (around_c _ ax ay ah ((eY % 1000).toNat) (by omega) (by omega) (by omega) (by omega)) ?_
      refine runDf g'30 ?_
      refine call_x (by kernel_rfl) (by simp) (learn_c _ W Hh _ (knsL xs eX xs.length) _ [((aroB ax ay ah ((eY % 1000).toNat)).1, (aroB ax ay ah ((eY % 1000).toNat)).2.1, (aroB ax ay ah ((eY % 1000).toNat)).2.2.1, (aroB ax ay ah ((eY % 1000).toNat)).2.2.2.1, (aroB ax ay ah ((eY % 1000).toNat)).2.2.2.2.1, (aroB ax ay ah ((eY % 1000).toNat)).2.2.2.2.2)] _ (swpL2 W Hh xs ax ay ah (1 + (((eL % 32).toNat : Nat) : Int)) mks ers) (1 + (((eL % 32).toNat : Nat) : Int)) ⟨_, _, _, by first | rfl | (rw [List.length_append]; done) | (rw [List.length_append]; rfl), by first | rfl | (rw [get_newk]; rfl) | (rw [get_new0]; rfl) | (rw [get_newk, prs_append]; rfl) | (rw [get_new0, prs_append]; rfl)⟩ ⟨_, _, _, by first | rfl | (rw [List.length_append]; done) | (rw [List.length_append]; rfl), by first | rfl | (rw [get_newk]; rfl) | (rw [get_new0]; rfl) | (rw [get_newk, prs_append]; rfl) | (rw [get_new0, prs_append]; rfl)⟩ ⟨_, _, _, by first | rfl | (rw [List.length_append]; done) | (rw [List.length_append]; rfl), by first | rfl | (rw [get_newk]; rfl) | (rw [get_new0]; rfl) | (rw [get_newk, prs_append]; rfl) | (rw [get_new0, prs_append]; rfl)⟩ (by first | omega | simp) (by first | omega | simp)) ?_
      refine runDf g'30 ?_
      refine inv_of (hJ _ _ ⟨_, _, _, ⟨rfl, rfl⟩, Abs.byG hbel [] rfl [0, 8, 6] (by decide) ?_⟩)
      exact absRf (jn @f43 (jn @f44 (jn @f45 (jn @f46 (jn @f47 (jn @f48 @f49))))))
  rintro F2 H2 ⟨rfl, rfl⟩
  refine AW_fin false try_mixed (by kernel_rfl) ?_
  have g'31 := (jn @hbpp (jn @hb0pp (jn @hbmk (jn @hb0mk (jn @hber (jn @hb0er (jn @h10d (jn @h11d (jn @h12d (jn @h13d (jn @h14d (jn @h32d (jn @prs_len (jn @prs_one (jn @ints_len (jn @ints_ones @h42d))))))))))))))))
  refine runTf g'31 ?_
  refine gd_split (fun h50 => ?_) (fun h50 => ?_)
  · have h50d := bsT h50
    have h50n := bnT h50
    have g'32 := (jn @h50 (jn @h50n (jn @int_bne (jn @int_beq g'31))))
    refine runTf g'32 ?_
    refine cond_split (fun h51 => ?_) (fun h51 => ?_)
    · have h51d := bsT h51
      have h51n := bnT h51
      exact absurd (congrArg (fun n : Nat => (n : Int)) hlen) h51d
    · have h51d := bsT h51
      have h51n := bnT h51
      have g'33 := (jn @h51 (jn @h51n g'32))
      refine runTf g'33 ?_
      refine go_loop try_mixed (by kernel_rfl) (fun k F Hx => ∃ i : Nat, i + k = xs.length ∧ F = [(3, .ptr (some (H.length, 0))), (12, .ptr (some (H.length + 2, 0))), (14, .int .i64 ((i : Nat) : Int))] ∧ Hx = H ++ [.cells true 0 [.int .i64 W, .int .i64 Hh, .sl (some (bpp, 0)) xs.length cpp], .cells (ownG (lnX W Hh (knsL xs eX xs.length) [((aroB ax ay ah ((eY % 1000).toNat)).1, (aroB ax ay ah ((eY % 1000).toNat)).2.1, (aroB ax ay ah ((eY % 1000).toNat)).2.2.1, (aroB ax ay ah ((eY % 1000).toNat)).2.2.2.1, (aroB ax ay ah ((eY % 1000).toNat)).2.2.2.2.1, (aroB ax ay ah ((eY % 1000).toNat)).2.2.2.2.2)] (swpL2 W Hh xs ax ay ah (1 + (((eL % 32).toNat : Nat) : Int)) mks ers) (1 + (((eL % 32).toNat : Nat) : Int))).length) 1 (ints .u8 (lnX W Hh (knsL xs eX xs.length) [((aroB ax ay ah ((eY % 1000).toNat)).1, (aroB ax ay ah ((eY % 1000).toNat)).2.1, (aroB ax ay ah ((eY % 1000).toNat)).2.2.1, (aroB ax ay ah ((eY % 1000).toNat)).2.2.2.1, (aroB ax ay ah ((eY % 1000).toNat)).2.2.2.2.1, (aroB ax ay ah ((eY % 1000).toNat)).2.2.2.2.2)] (swpL2 W Hh xs ax ay ah (1 + (((eL % 32).toNat : Nat) : Int)) mks ers) (1 + (((eL % 32).toNat : Nat) : Int)))), .cells true 0 [.int .i64 (lnZ W Hh (knsL xs eX xs.length) [((aroB ax ay ah ((eY % 1000).toNat)).1, (aroB ax ay ah ((eY % 1000).toNat)).2.1, (aroB ax ay ah ((eY % 1000).toNat)).2.2.1, (aroB ax ay ah ((eY % 1000).toNat)).2.2.2.1, (aroB ax ay ah ((eY % 1000).toNat)).2.2.2.2.1, (aroB ax ay ah ((eY % 1000).toNat)).2.2.2.2.2)] (swpL2 W Hh xs ax ay ah (1 + (((eL % 32).toNat : Nat) : Int)) mks ers) (1 + (((eL % 32).toNat : Nat) : Int)) W), .int .i64 (lnZ W Hh (knsL xs eX xs.length) [((aroB ax ay ah ((eY % 1000).toNat)).1, (aroB ax ay ah ((eY % 1000).toNat)).2.1, (aroB ax ay ah ((eY % 1000).toNat)).2.2.1, (aroB ax ay ah ((eY % 1000).toNat)).2.2.2.1, (aroB ax ay ah ((eY % 1000).toNat)).2.2.2.2.1, (aroB ax ay ah ((eY % 1000).toNat)).2.2.2.2.2)] (swpL2 W Hh xs ax ay ah (1 + (((eL % 32).toNat : Nat) : Int)) mks ers) (1 + (((eL % 32).toNat : Nat) : Int)) Hh), .sl (some (H.length + 1, 0)) ((lnX W Hh (knsL xs eX xs.length) [((aroB ax ay ah ((eY % 1000).toNat)).1, (aroB ax ay ah ((eY % 1000).toNat)).2.1, (aroB ax ay ah ((eY % 1000).toNat)).2.2.1, (aroB ax ay ah ((eY % 1000).toNat)).2.2.2.1, (aroB ax ay ah ((eY % 1000).toNat)).2.2.2.2.1, (aroB ax ay ah ((eY % 1000).toNat)).2.2.2.2.2)] (swpL2 W Hh xs ax ay ah (1 + (((eL % 32).toNat : Nat) : Int)) mks ers) (1 + (((eL % 32).toNat : Nat) : Int))).length) none]]) (xs.length) ?_ ?_
      · refine ⟨_, _, _, ⟨0, by omega, rfl, rfl⟩, Abs.byG hbel [] rfl [0, 1, 2] (by decide) ?_⟩
        exact absR
      · rintro k1 F Hx ⟨i, hm1, rfl, rfl⟩ J1 hJ1
        refine runTf g'33 ?_
        refine cond_split (fun h52 => ?_) (fun h52 => ?_)
        · have h52d := bsT h52
          have hlt : i < xs.length := by omega
          have q53 := ints_get (k := .u8) (xs := lnX W Hh (knsL xs eX xs.length) [((aroB ax ay ah ((eY % 1000).toNat)).1, (aroB ax ay ah ((eY % 1000).toNat)).2.1, (aroB ax ay ah ((eY % 1000).toNat)).2.2.1, (aroB ax ay ah ((eY % 1000).toNat)).2.2.2.1, (aroB ax ay ah ((eY % 1000).toNat)).2.2.2.2.1, (aroB ax ay ah ((eY % 1000).toNat)).2.2.2.2.2)] (swpL2 W Hh xs ax ay ah (1 + (((eL % 32).toNat : Nat) : Int)) mks ers) (1 + (((eL % 32).toNat : Nat) : Int))) (j := i) (by omega)
          have g'34 := (jn @h52 (jn @h52d (jn @q53 g'33)))
          refine runTf g'34 ?_
          refine gd_split (fun h54 => ?_) (fun h54 => ?_)
          · have h54d := bsT h54
            have h54n := bnT h54
            have hne : ¬ gi (lnX W Hh (knsL xs eX xs.length) [((aroB ax ay ah ((eY % 1000).toNat)).1, (aroB ax ay ah ((eY % 1000).toNat)).2.1, (aroB ax ay ah ((eY % 1000).toNat)).2.2.1, (aroB ax ay ah ((eY % 1000).toNat)).2.2.2.1, (aroB ax ay ah ((eY % 1000).toNat)).2.2.2.2.1, (aroB ax ay ah ((eY % 1000).toNat)).2.2.2.2.2)] (swpL2 W Hh xs ax ay ah (1 + (((eL % 32).toNat : Nat) : Int)) mks ers) (1 + (((eL % 32).toNat : Nat) : Int))) i = 0 := by first | exact h54d | simpa using h54d
            have q55 := ints_get (k := .u8) (xs := lnX W Hh (knsL xs eX xs.length) [((aroB ax ay ah ((eY % 1000).toNat)).1, (aroB ax ay ah ((eY % 1000).toNat)).2.1, (aroB ax ay ah ((eY % 1000).toNat)).2.2.1, (aroB ax ay ah ((eY % 1000).toNat)).2.2.2.1, (aroB ax ay ah ((eY % 1000).toNat)).2.2.2.2.1, (aroB ax ay ah ((eY % 1000).toNat)).2.2.2.2.2)] (swpL2 W Hh xs ax ay ah (1 + (((eL % 32).toNat : Nat) : Int)) mks ers) (1 + (((eL % 32).toNat : Nat) : Int))) (j := i) (by omega)
            have q56 := ints_get (k := .u8) (xs := xs) (j := i) (by omega)
            have g'35 := (jn @h54 (jn @h54n (jn @q55 (jn @q56 g'34))))
            refine runTf g'35 ?_
            refine cond_split (fun h57 => ?_) (fun h57 => ?_)
            · have h57d := bsT h57
              have h57n := bnT h57
              exact absurd ((hblw.2 i).resolve_left hne) (by first | exact h57d | simpa using h57d)
            · have h57d := bsT h57
              have h57n := bnT h57
              have g'36 := (jn @h57 (jn @h57n g'35))
              refine runTf g'36 ?_
              refine hJ1 _ _ ⟨k1 - 1, by omega, _, _, _, ⟨i + 1, by omega, rfl, rfl⟩, Abs.byG hbel [] rfl [0, 1, 2] (by decide) ?_⟩
              exact absR
          · have h54d := bsT h54
            have h54n := bnT h54
            have g'37 := (jn @h54 (jn @h54n g'34))
            refine runTf g'37 ?_
            refine hJ1 _ _ ⟨k1 - 1, by omega, _, _, _, ⟨i + 1, by omega, rfl, rfl⟩, Abs.byG hbel [] rfl [0, 1, 2] (by decide) ?_⟩
            exact absR
        · have h52d := bsT h52
          have g'38 := (jn @h52 (jn @h52d g'33))
          refine runTf g'38 ?_
          exact hQ _ _ (end_plain (.inl rfl) hbel (x := .bool true) (resT Tryz.results3) rfl ⟨rfl, rfl⟩)
  · have h50d := bsT h50
    have h50n := bnT h50
    exact absurd hmain.1 (by first | exact h50d | simpa using h50d)
open Go.RowKit
set_option maxRecDepth 100000 in
theorem knownTrue_top (H : AHeap) (xs : List AV) (hn : xs.length = 3) (hy : ∀ (j : Nat) (t : TypeId) (x : AV), [24, 26, 33][j]? = some t → xs[j]? = some x → ATy Tryz.prog H 9 t x) : ACalls Tryz.prog 3 xs H (fun v H' => v = .bool true ∧ H' = H) := by
  match xs, hn, hy with
  | [a0, a1, a2], _, hy =>
    obtain ⟨ys0, e0, r0_0⟩ := (hy 0 _ a0 rfl rfl).agg (ls := [3, 3, 22]) (by kernel_rfl) (by kernel_rfl)
    obtain ⟨y0_0, q0_0, rfl, t0_0, r0_1⟩ := r0_0.cons
    obtain ⟨z1, rfl, w1⟩ := t0_0.int (k := .i64) (by kernel_rfl)
    obtain ⟨y0_1, q0_1, rfl, t0_1, r0_2⟩ := r0_1.cons
    obtain ⟨z2, rfl, w2⟩ := t0_1.int (k := .i64) (by kernel_rfl)
    obtain ⟨y0_2, q0_2, rfl, t0_2, r0_3⟩ := r0_2.cons
    obtain ⟨l3, s3, m3, w3⟩ := t0_2.intsU (n := 7) (t := 22) (e := 5) (by kernel_rfl) (by kernel_rfl) (by kernel_rfl)
    obtain rfl := r0_3.nil
    subst e0
    obtain ⟨ys1, e1, r1_0⟩ := (hy 1 _ a1 rfl rfl).agg (ls := [3, 3, 3]) (by kernel_rfl) (by kernel_rfl)
    obtain ⟨y1_0, q1_0, rfl, t1_0, r1_1⟩ := r1_0.cons
    obtain ⟨z4, rfl, w4⟩ := t1_0.int (k := .i64) (by kernel_rfl)
    obtain ⟨y1_1, q1_1, rfl, t1_1, r1_2⟩ := r1_1.cons
    obtain ⟨z5, rfl, w5⟩ := t1_1.int (k := .i64) (by kernel_rfl)
    obtain ⟨y1_2, q1_2, rfl, t1_2, r1_3⟩ := r1_2.cons
    obtain ⟨z6, rfl, w6⟩ := t1_2.int (k := .i64) (by kernel_rfl)
    obtain rfl := r1_3.nil
    subst e1
    obtain ⟨ys2, e2, r2_0⟩ := (hy 2 _ a2 rfl rfl).agg (ls := [3, 3, 3, 3, 3, 3, 31, 31]) (by kernel_rfl) (by kernel_rfl)
    obtain ⟨y2_0, q2_0, rfl, t2_0, r2_1⟩ := r2_0.cons
    obtain ⟨z7, rfl, w7⟩ := t2_0.int (k := .i64) (by kernel_rfl)
    obtain ⟨y2_1, q2_1, rfl, t2_1, r2_2⟩ := r2_1.cons
    obtain ⟨z8, rfl, w8⟩ := t2_1.int (k := .i64) (by kernel_rfl)
    obtain ⟨y2_2, q2_2, rfl, t2_2, r2_3⟩ := r2_2.cons
    obtain ⟨z9, rfl, w9⟩ := t2_2.int (k := .i64) (by kernel_rfl)
    obtain ⟨y2_3, q2_3, rfl, t2_3, r2_4⟩ := r2_3.cons
    obtain ⟨z10, rfl, w10⟩ := t2_3.int (k := .i64) (by kernel_rfl)
    obtain ⟨y2_4, q2_4, rfl, t2_4, r2_5⟩ := r2_4.cons
    obtain ⟨z11, rfl, w11⟩ := t2_4.int (k := .i64) (by kernel_rfl)
    obtain ⟨y2_5, q2_5, rfl, t2_5, r2_6⟩ := r2_5.cons
    obtain ⟨z12, rfl, w12⟩ := t2_5.int (k := .i64) (by kernel_rfl)
    obtain ⟨y2_6, q2_6, rfl, t2_6, r2_7⟩ := r2_6.cons
    obtain ⟨l13, s13, m13, w13⟩ := t2_6.intsU (n := 7) (t := 31) (e := 3) (by kernel_rfl) (by kernel_rfl) (by kernel_rfl)
    obtain ⟨y2_7, q2_7, rfl, t2_7, r2_8⟩ := r2_7.cons
    obtain ⟨l14, s14, m14, w14⟩ := t2_7.intsU (n := 7) (t := 31) (e := 3) (by kernel_rfl) (by kernel_rfl) (by kernel_rfl)
    obtain rfl := r2_8.nil
    subst e2
    exact ltru_c H z1 z2 _ l3 z4 z5 z6 z7 z8 z9 z10 z11 z12 _ l13 _ l14 s3 s13 s14 (fun z hz => (wf_u8 (w3 z hz)).1)
section
open Go.ChangeShapes Go.WideShapes Go.ChangeAt Go.RowKit Go.Joins
open Go.ChangeMaps (open_string shut_string)
set_option maxRecDepth 100000 in
theorem knownTrue_lifted (os : Os) (started : os.Started) (H : Type) (enc : TypeId × Value → H) :
    ReturnsInHanded {} Tryz.checked os 3 .any (Rows.knownTrueSpec.pre6 enc Tryz.prog Tryz.f3 Rows.knownTrueRow.domain false) (Rows.knownTrueSpec.post enc Tryz.prog Tryz.f3 false true false false) := by
  refine returnsInHanded_of_change (C := Tryz.checked) own started (by kernel_rfl) Tryz.func3
    (ChangeSpec.witness6 (enc := enc) (C := Tryz.checked) false ⟨#[], #[.agg #[.int .i64 0, .int .i64 0, .slice none 0 0], .agg #[.int .i64 0, .int .i64 0, .int .i64 0], .agg #[.int .i64 0, .int .i64 0, .int .i64 0, .int .i64 0, .int .i64 0, .int .i64 0, .slice none 0 0, .slice none 0 0]], []⟩ 8 (by kernel_rfl) (by kernel_rfl) (by kernel_rfl) (by kernel_rfl)) ?_
  intro W base args ds gs before hval0 hW hcnd _
  have hval : ∀ (j : Nat) t v, Tryz.f3.params[j]? = some t → args[j]? = some v → Value.okWide Tryz.prog W .any base t v := hval0
  have hW' := hW
  obtain ⟨p, q, hA0, hV, rfl, hfz, hnd⟩ := hW
  have hA : DataW.TrodAll enc Tryz.prog W 0 (fun _ => true) true Tryz.f3.params.toList args.toList ds p := hA0
  rw [Tryz.params3] at hA hval
  have hwalk := calls_top (n := 9) (f := 3) hA (fun j t v a b => hval j t v (by simpa using a) (by simpa using b)) (by kernel_rfl) (fun H xs hn hy => knownTrue_top H xs hn hy)
  rw [Array.toArray_toList] at hwalk
  obtain ⟨v0, vs0, d0, ds0, p0, q0, hargs, rfl, rfl, h0, r0⟩ := trodAll_cons hA
  obtain ⟨v1, vs1, d1, ds1, p1, q1, rfl, rfl, rfl, h1, r1⟩ := trodAll_cons r0
  obtain ⟨v2, vs2, d2, ds2, p2, q2, rfl, rfl, rfl, h2, r2⟩ := trodAll_cons r1
  obtain ⟨rfl, rfl, rfl⟩ := trodAll_nil r2
  obtain rfl : args = #[v0, v1, v2] := by cases args; simp_all
  obtain ⟨rfl, rfl⟩ := trodVars_none hV
  have k0 := h0
  have lt0 : ∀ x ∈ p0, x.block < W.heap.size := by obtain ⟨m, hm⟩ := k0; exact DataW.trod_lt m _ _ _ hm
  have k1 := h1
  have lt1 : ∀ x ∈ p1, x.block < W.heap.size := by obtain ⟨m, hm⟩ := k1; exact DataW.trod_lt m _ _ _ hm
  have k2 := h2
  have lt2 : ∀ x ∈ p2, x.block < W.heap.size := by obtain ⟨m, hm⟩ := k2; exact DataW.trod_lt m _ _ _ hm
  clear hA0 hval0
  refine hwalk.mono fun e W' ⟨he, bel⟩ => ?_
  subst he
  exact ⟨_, rfl, _, _, _, [], _, [], hW', trodAll_mk1 (shut_bool Tryz.underlying4 _), (trodAll_cons_mk (Below.trod laidOut (by kernel_rfl) (of_decide_eq_true (by kernel_rfl)) k0 bel lt0) (trodAll_cons_mk (Below.trod laidOut (by kernel_rfl) (of_decide_eq_true (by kernel_rfl)) k1 bel lt1) (trodAll_cons_mk (Below.trod laidOut (by kernel_rfl) (of_decide_eq_true (by kernel_rfl)) k2 bel lt2) trodAll_mk0))), rfl, bel.frame _, fun h => by cases h⟩
theorem and_t {a b : Bool} (h : a = true) (k : b = true) : (a && b) = true := by rw [h, k]; rfl
theorem knownTrue_h0 : (Rows.knownTrueRow.inPlace == Tryz.pinned.checked.prog.inPlace 3) = true := by kernel_rfl
theorem knownTrue_h1 : (Rows.knownTrueRow.unfollowed == Tryz.pinned.checked.prog.unfollowed 3) = true := by kernel_rfl
theorem knownTrue_h2 : (Rows.knownTrueRow.recurses == Tryz.pinned.checked.prog.recurses 3) = true := by kernel_rfl
theorem knownTrue_h3 : (Rows.knownTrueRow.named == Tryz.pinned.checked.prog.varsNamed 3) = true := by kernel_rfl
theorem knownTrue_h4 : Tryz.pinned.checked.prog.stopsHeard = true := by kernel_rfl
theorem knownTrue_h5 : Tryz.pinned.checked.prog.mayEnter = true := by kernel_rfl
theorem knownTrue_h6 : (Rows.knownTrueRow.lifted == Tryz.pinned.checked.prog.liftsFinal) = true := by kernel_rfl
theorem knownTrue_closed : joinedFacts Tryz.pinned.checked.prog 3 Tryz.f3 Rows.knownTrueSpec Rows.knownTrueRow = true := by
  unfold joinedFacts
  exact (and_t (and_t (and_t (and_t (and_t (and_t (and_t (and_t (and_t (and_t (and_t (and_t (and_t (and_t (and_t (and_t (and_t (and_t (and_t (and_t (and_t (and_t (and_t (and_t (and_t (and_t (and_t (and_t (and_t (and_t (and_t (by kernel_rfl) laidOut) (by kernel_rfl)) (by kernel_rfl)) (by kernel_rfl)) (by kernel_rfl)) (by kernel_rfl)) (by kernel_rfl)) (by kernel_rfl)) knownTrue_h0) knownTrue_h1) knownTrue_h2) knownTrue_h3) (by kernel_rfl)) (by kernel_rfl)) (by kernel_rfl)) (by kernel_rfl)) (by kernel_rfl)) (by kernel_rfl)) (by kernel_rfl)) (by kernel_rfl)) (by kernel_rfl)) (by kernel_rfl)) (by kernel_rfl)) knownTrue_h4) knownTrue_h5) knownTrue_h6) (by kernel_rfl)) (by kernel_rfl)) (by kernel_rfl)) (by kernel_rfl)) (by kernel_rfl))
theorem knownTrue_over : Rows.knownTrueRow.holds Tryz.pinned (OpenSpec.ofChange Rows.knownTrueSpec) :=
  OpenClaim.holds_of_wide 3 Tryz.f3 rfl rfl rfl rfl rfl rfl rfl ⟨rfl, rfl, rfl, rfl, rfl⟩ rfl rfl rfl rfl rfl (by kernel_rfl) Tryz.func3 knownTrue_closed
    (of_decide_eq_true (by kernel_rfl)) (by unfold Func.isWrapper; rw [if_neg (by decide +kernel)]; exact ⟨rfl, rfl⟩)
    (fun os started H enc _ => knownTrue_lifted os started H enc)
/-- The given statement. -/
theorem knownTrue_proved : Rows.KnownTrueSaid := knownTrue_over
end
end Go.Proofs.YtcokgigjmjlmnaaGreat
