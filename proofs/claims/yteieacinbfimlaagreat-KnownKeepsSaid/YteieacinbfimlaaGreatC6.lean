/- Parts of the proofs: walks and plain facts. Conditions: as each theorem states. -/
import Derived.Test.YteieacinbfimlaaGreatC4
import Derived.Test.YteieacinbfimlaaGreatC5
import Derived.Test.YteieacinbfimlaaGreatC3
namespace Go.Proofs.YteieacinbfimlaaGreat
set_option linter.unusedSimpArgs false
set_option linter.unusedVariables false
open Go.RowKit
set_option maxHeartbeats 4000000
set_option maxRecDepth 100000
theorem tmS_hn {px py vx vy vd x0 y0 x1 y1 : Int} (hg : thG px py vx vy vd x0 y0 x1 y1 = true) (h : tmE px py vx vy x0 y0 x1 y1 = false) : 0 ≤ (tmS px py vx vy x0 y0 x1 y1).2.1 := by
  have hv := (thG_vec hg).2
  have ho : okS (tmS px py vx vy x0 y0 x1 y1) := tmS_ok hv
  have k := (inS_lo ho).1 ((tmE_f hv).1 h).2
  have hl : 0 ≤ (tmS px py vx vy x0 y0 x1 y1).1.1 := tmS_nn
  generalize tmS px py vx vy x0 y0 x1 y1 = s at *
  have h1 := ho.1
  have h2 := ho.2
  rcases Int.lt_or_le s.2.1 0 with q | q
  · have a1 := Int.mul_neg_of_neg_of_pos q h1
    have a2 := Int.mul_nonneg hl (show 0 ≤ s.2.2 by omega)
    omega
  · exact q
/-- The ray meets the rectangle, by the reference. -/
def rO (px py vx vy vd x0 y0 x1 y1 : Int) : Bool := thG px py vx vy vd x0 y0 x1 y1 && !tmE px py vx vy x0 y0 x1 y1
theorem rO_t {px py vx vy vd x0 y0 x1 y1 : Int} (h : rO px py vx vy vd x0 y0 x1 y1 = true) : thG px py vx vy vd x0 y0 x1 y1 = true ∧ tmE px py vx vy x0 y0 x1 y1 = false := by
  unfold rO at h; simpa using h
theorem rO_me {px py vx vy vd x0 y0 x1 y1 lo hi : Int} (h : rO px py vx vy vd x0 y0 x1 y1 = false) : smeB px py vx vy vd lo hi x0 y0 x1 y1 = false ∧ sbfB px py vx vy vd hi x0 y0 x1 y1 = false := by
  rw [sme_ref, sbf_ref]
  unfold rmeeB rbefB
  unfold rO at h
  cases hg : thG px py vx vy vd x0 y0 x1 y1
  · simp
  · rw [hg, Bool.true_and] at h; rw [h]; simp
def enN (px py vx vy vd x0 y0 x1 y1 : Int) : Int := lwN ((tmS px py vx vy x0 y0 x1 y1).1.1 * vd) (tmS px py vx vy x0 y0 x1 y1).1.2
def enD (px py vx vy vd x0 y0 x1 y1 : Int) : Int := lwD ((tmS px py vx vy x0 y0 x1 y1).1.1 * vd) (tmS px py vx vy x0 y0 x1 y1).1.2
def lvN (px py vx vy vd x0 y0 x1 y1 : Int) : Int := lwN ((tmS px py vx vy x0 y0 x1 y1).2.1 * vd) (tmS px py vx vy x0 y0 x1 y1).2.2
def lvD (px py vx vy vd x0 y0 x1 y1 : Int) : Int := lwD ((tmS px py vx vy x0 y0 x1 y1).2.1 * vd) (tmS px py vx vy x0 y0 x1 y1).2.2
theorem en_bd {px py vx vy vd x0 y0 x1 y1 : Int} (h : rO px py vx vy vd x0 y0 x1 y1 = true) : ((0 ≤ enN px py vx vy vd x0 y0 x1 y1 ∧ enN px py vx vy vd x0 y0 x1 y1 ≤ 562949953421312) ∧ 0 < enD px py vx vy vd x0 y0 x1 y1 ∧ enD px py vx vy vd x0 y0 x1 y1 ≤ 67108864) ∧ (0 ≤ lvN px py vx vy vd x0 y0 x1 y1 ∧ lvN px py vx vy vd x0 y0 x1 y1 ≤ 562949953421312) ∧ 0 < lvD px py vx vy vd x0 y0 x1 y1 ∧ lvD px py vx vy vd x0 y0 x1 y1 ≤ 67108864 := by
  obtain ⟨hg, he⟩ := rO_t h
  obtain ⟨⟨b1, b2⟩, b3, b4⟩ := tmS_bd hg
  have hn : 0 ≤ (tmS px py vx vy x0 y0 x1 y1).1.1 := tmS_nn
  have hh := tmS_hn hg he
  have hv := vecB_iff.1 (thG_iff.1 hg).2.1
  have m1 := mul_bd (a := (tmS px py vx vy x0 y0 x1 y1).1.1) (b := vd) (A := 8388608) (B := 67108864) (by omega) (by omega)
  have m2 := mul_bd (a := (tmS px py vx vy x0 y0 x1 y1).2.1) (b := vd) (A := 8388608) (B := 67108864) (by omega) (by omega)
  have n1 := Int.mul_nonneg hn (show 0 ≤ vd by omega)
  have n2 := Int.mul_nonneg hh (show 0 ≤ vd by omega)
  have q1 := lw_bd (n := (tmS px py vx vy x0 y0 x1 y1).1.1 * vd) (d := (tmS px py vx vy x0 y0 x1 y1).1.2) (B := 562949953421312) (by omega) (by omega)
  have q2 := lw_bd (n := (tmS px py vx vy x0 y0 x1 y1).2.1 * vd) (d := (tmS px py vx vy x0 y0 x1 y1).2.2) (B := 562949953421312) (by omega) (by omega)
  unfold enN enD lvN lvD
  omega
theorem en_le {px py vx vy vd x0 y0 x1 y1 hi : Int} (h : rO px py vx vy vd x0 y0 x1 y1 = true) : (enN px py vx vy vd x0 y0 x1 y1 ≤ hi * enD px py vx vy vd x0 y0 x1 y1 ↔ (tmS px py vx vy x0 y0 x1 y1).1.1 * vd ≤ hi * (tmS px py vx vy x0 y0 x1 y1).1.2) ∧ (enN px py vx vy vd x0 y0 x1 y1 < hi * enD px py vx vy vd x0 y0 x1 y1 ↔ (tmS px py vx vy x0 y0 x1 y1).1.1 * vd < hi * (tmS px py vx vy x0 y0 x1 y1).1.2) ∧ (hi * lvD px py vx vy vd x0 y0 x1 y1 ≤ lvN px py vx vy vd x0 y0 x1 y1 ↔ hi * (tmS px py vx vy x0 y0 x1 y1).2.2 ≤ (tmS px py vx vy x0 y0 x1 y1).2.1 * vd) := by
  obtain ⟨hg, he⟩ := rO_t h
  have ho : okS (tmS px py vx vy x0 y0 x1 y1) := tmS_ok (thG_vec hg).2
  exact ⟨(lw_le ho.1).1, lw_lt ho.1, (lw_le ho.2).2⟩
theorem ax_neg {p d a b : Int} (h : d < 0) : (sbL (0 - p) (0 - d) (0 - b) (0 - a) = sbL p d a b ∧ sbH (0 - p) (0 - d) (0 - b) (0 - a) = sbH p d a b) := by
  unfold sbL sbH
  simp only [if_neg (show ¬ 0 - d < 0 by omega), if_pos h]
  exact ⟨Prod.ext (by simp only; omega) (by simp only; omega), Prod.ext (by simp only; omega) (by simp only; omega)⟩
/-- What an axis of the reference hands back. -/
def axI (d n : Int) : Int := if d = 0 then 0 else n
def axA (p d a b : Int) : Bool := decide (d = 0) && !axE p d a b
theorem axE_n {p d a b : Int} (h : ¬ d = 0) : axE p d a b = false ∧ axA p d a b = false := by
  unfold axA axE; rw [decide_eq_false h]; exact ⟨rfl, rfl⟩
def tiV (px py vx vy x0 y0 x1 y1 : Int) : Fr2 × Fr2 := if tmE px py vx vy x0 y0 x1 y1 = true then ((0, 0), (0, 0)) else tmS px py vx vy x0 y0 x1 y1
theorem lw_tdiv {n d : Int} (hn : 0 ≤ n) (hd : 0 < d) : Int.tdiv n (Int.gcd n d : Int) = lwN n d ∧ Int.tdiv d (Int.gcd n d : Int) = lwD n d := ⟨Int.tdiv_eq_ediv_of_nonneg hn, Int.tdiv_eq_ediv_of_nonneg (by omega)⟩
theorem axis0_c (H : AHeap) (p : Int) (d : Int) (a : Int) (b : Int) (h1 : -2097152 ≤ p ∧ p ≤ 2097152) (h2 : -67108864 ≤ d ∧ d ≤ 67108864) (h3 : -2097152 ≤ a ∧ a ≤ 2097152) (h4 : -2097152 ≤ b ∧ b ≤ 2097152) (hd0 : 0 ≤ d) : ACalls Tryz.prog 322 [.int .i64 p, .int .i64 d, .int .i64 a, .int .i64 b] H (fun v H' => v = .agg [.int .i64 (axI d (sbL p d a b).1), .int .i64 (axI d (sbL p d a b).2), .int .i64 (axI d (sbH p d a b).1), .int .i64 (axI d (sbH p d a b).2), .bool (axE p d a b), .bool (axA p d a b)] ∧ H' = H) := by
  have hnn : decide (d < 0) = false := decide_eq_false (by omega)
  refine AcT true Tryz.func322 ?_; intro hbel Q hQ
  have g'1 := @hnn
  refine runTf g'1 ?_
  refine gd_split (fun h1 => ?_) (fun h1 => ?_)
  · have h1d := bsT h1
    have h1n := bnT h1
    have hd : d = 0 := by simpa using h1d
    have g'2 := (jn @h1 (jn @h1n (jn @int_bne (jn @int_beq g'1))))
    refine runTf g'2 ?_
    refine gd_split (fun h2 => ?_) (fun h2 => ?_)
    · have h2d := bsT h2
      have g'3 := (jn @h2 (jn @h2d g'2))
      refine runTf g'3 ?_
      refine cond_split (fun h3 => ?_) (fun h3 => ?_)
      · have h3d := bsT h3
        have g'4 := (jn @h3 (jn @h3d g'3))
        refine runTf g'4 ?_
        exact hQ _ _ (end_plain (.inl rfl) hbel (x := .agg [.int .i64 0, .int .i64 0, .int .i64 0, .int .i64 0, .bool true, .bool false]) (resT Tryz.results322) rfl ⟨by first | (simp [axI, axE, axA, hd, h2d, h3d, h1d]; done) | (simp [axI, axE, axA, sbL, sbH, hd, hdp, h2d, h3d, h1d]; done) | skip, rfl⟩)
      · have h3d := bsT h3
        have g'5 := (jn @h3 (jn @h3d g'3))
        refine runTf g'5 ?_
        exact hQ _ _ (end_plain (.inl rfl) hbel (x := .agg [.int .i64 0, .int .i64 0, .int .i64 0, .int .i64 0, .bool false, .bool true]) (resT Tryz.results322) rfl ⟨by first | (simp [axI, axE, axA, hd, h2d, h3d, h1d]; done) | (simp [axI, axE, axA, sbL, sbH, hd, hdp, h2d, h3d, h1d]; done) | skip, rfl⟩)
    · have h2d := bsT h2
      have g'6 := (jn @h2 (jn @h2d g'2))
      refine runTf g'6 ?_
      exact hQ _ _ (end_plain (.inl rfl) hbel (x := .agg [.int .i64 0, .int .i64 0, .int .i64 0, .int .i64 0, .bool true, .bool false]) (resT Tryz.results322) rfl ⟨by first | (simp [axI, axE, axA, hd, h2d, h1d]; done) | (simp [axI, axE, axA, sbL, sbH, hd, hdp, h2d, h1d]; done) | skip, rfl⟩)
  · have h1d := bsT h1
    have h1n := bnT h1
    have hd : ¬ d = 0 := by simpa using h1d
    have hdp : ¬ d < 0 := by omega
    have g'7 := (jn @h1 (jn @h1n (jn @int_bne (jn @int_beq g'1))))
    refine runTf g'7 ?_
    exact hQ _ _ (end_plain (.inl rfl) hbel (x := .agg [.int .i64 (a - p), .int .i64 d, .int .i64 (b - p), .int .i64 d, .bool false, .bool false]) (resT Tryz.results322) rfl ⟨by first | (simp [axI, axE, axA, hd, h1d]; done) | (simp [axI, axE, axA, sbL, sbH, hd, hdp, h1d]; done) | skip, rfl⟩)
theorem axis_c (H : AHeap) (p : Int) (d : Int) (a : Int) (b : Int) (h1 : -2097152 ≤ p ∧ p ≤ 2097152) (h2 : -67108864 ≤ d ∧ d ≤ 67108864) (h3 : -2097152 ≤ a ∧ a ≤ 2097152) (h4 : -2097152 ≤ b ∧ b ≤ 2097152) : ACalls Tryz.prog 322 [.int .i64 p, .int .i64 d, .int .i64 a, .int .i64 b] H (fun v H' => v = .agg [.int .i64 (axI d (sbL p d a b).1), .int .i64 (axI d (sbL p d a b).2), .int .i64 (axI d (sbH p d a b).1), .int .i64 (axI d (sbH p d a b).2), .bool (axE p d a b), .bool (axA p d a b)] ∧ H' = H) := by
  refine AcT true Tryz.func322 ?_; intro hbel Q hQ
  refine runT ?_
  refine gd_split (fun h1 => ?_) (fun h1 => ?_)
  · have h1d := bsT h1
    have h1n := bnT h1
    have hd : d = 0 := by simpa using h1d
    have g'8 := (jn @h1 (jn @h1n (jn @int_bne @int_beq)))
    refine runTf g'8 ?_
    refine gd_split (fun h2 => ?_) (fun h2 => ?_)
    · have h2d := bsT h2
      have g'9 := (jn @h2 (jn @h2d g'8))
      refine runTf g'9 ?_
      refine cond_split (fun h3 => ?_) (fun h3 => ?_)
      · have h3d := bsT h3
        have g'10 := (jn @h3 (jn @h3d g'9))
        refine runTf g'10 ?_
        exact hQ _ _ (end_plain (.inl rfl) hbel (x := .agg [.int .i64 0, .int .i64 0, .int .i64 0, .int .i64 0, .bool true, .bool false]) (resT Tryz.results322) rfl ⟨by first | (rw [hax.1, hax.2, hx1.1, hx1.2, hx0.1, hx0.2]; unfold axI; rw [if_neg hd, if_neg hd, if_neg hd, if_neg hd, if_neg (show ¬ 0 - d = 0 by omega), if_neg (show ¬ 0 - d = 0 by omega), if_neg (show ¬ 0 - d = 0 by omega), if_neg (show ¬ 0 - d = 0 by omega)]; done) | (simp [axI, axE, axA, hd, h2d, h3d, h1d]; done) | (simp [axI, axE, axA, sbL, sbH, hd, hdp, h2d, h3d, h1d]; done) | skip, rfl⟩)
      · have h3d := bsT h3
        have g'11 := (jn @h3 (jn @h3d g'9))
        refine runTf g'11 ?_
        exact hQ _ _ (end_plain (.inl rfl) hbel (x := .agg [.int .i64 0, .int .i64 0, .int .i64 0, .int .i64 0, .bool false, .bool true]) (resT Tryz.results322) rfl ⟨by first | (rw [hax.1, hax.2, hx1.1, hx1.2, hx0.1, hx0.2]; unfold axI; rw [if_neg hd, if_neg hd, if_neg hd, if_neg hd, if_neg (show ¬ 0 - d = 0 by omega), if_neg (show ¬ 0 - d = 0 by omega), if_neg (show ¬ 0 - d = 0 by omega), if_neg (show ¬ 0 - d = 0 by omega)]; done) | (simp [axI, axE, axA, hd, h2d, h3d, h1d]; done) | (simp [axI, axE, axA, sbL, sbH, hd, hdp, h2d, h3d, h1d]; done) | skip, rfl⟩)
    · have h2d := bsT h2
      have g'12 := (jn @h2 (jn @h2d g'8))
      refine runTf g'12 ?_
      exact hQ _ _ (end_plain (.inl rfl) hbel (x := .agg [.int .i64 0, .int .i64 0, .int .i64 0, .int .i64 0, .bool true, .bool false]) (resT Tryz.results322) rfl ⟨by first | (rw [hax.1, hax.2, hx1.1, hx1.2, hx0.1, hx0.2]; unfold axI; rw [if_neg hd, if_neg hd, if_neg hd, if_neg hd, if_neg (show ¬ 0 - d = 0 by omega), if_neg (show ¬ 0 - d = 0 by omega), if_neg (show ¬ 0 - d = 0 by omega), if_neg (show ¬ 0 - d = 0 by omega)]; done) | (simp [axI, axE, axA, hd, h2d, h1d]; done) | (simp [axI, axE, axA, sbL, sbH, hd, hdp, h2d, h1d]; done) | skip, rfl⟩)
  · have h1d := bsT h1
    have h1n := bnT h1
    have hd : ¬ d = 0 := by simpa using h1d
    have g'13 := (jn @h1 (jn @h1n (jn @int_bne @int_beq)))
    refine runTf g'13 ?_
    refine cond_split (fun h4 => ?_) (fun h4 => ?_)
    · have h4d := bsT h4
      have hdn := h4d
      have hax := ax_neg (p := p) (a := a) (b := b) hdn
      have hx0 := axE_n (p := p) (a := a) (b := b) hd
      have hx1 := axE_n (p := 0 - p) (d := 0 - d) (a := 0 - b) (b := 0 - a) (by omega)
      have g'14 := (jn @h4 (jn @h4d g'13))
      refine runTf g'14 ?_
      refine call_v (by kernel_rfl) (axis0_c _ (0 - p) (0 - d) (0 - b) (0 - a) (by omega) (by omega) (by omega) (by omega) (by omega)) ?_
      refine runTf g'14 ?_
      exact hQ _ _ (end_plain (.inl rfl) hbel (x := .agg [.int .i64 (axI (0 - d) (sbL (0 - p) (0 - d) (0 - b) (0 - a)).1), .int .i64 (axI (0 - d) (sbL (0 - p) (0 - d) (0 - b) (0 - a)).2), .int .i64 (axI (0 - d) (sbH (0 - p) (0 - d) (0 - b) (0 - a)).1), .int .i64 (axI (0 - d) (sbH (0 - p) (0 - d) (0 - b) (0 - a)).2), .bool (axE (0 - p) (0 - d) (0 - b) (0 - a)), .bool (axA (0 - p) (0 - d) (0 - b) (0 - a))]) (resT Tryz.results322) rfl ⟨by first | (rw [hax.1, hax.2, hx1.1, hx1.2, hx0.1, hx0.2]; unfold axI; rw [if_neg hd, if_neg hd, if_neg hd, if_neg hd, if_neg (show ¬ 0 - d = 0 by omega), if_neg (show ¬ 0 - d = 0 by omega), if_neg (show ¬ 0 - d = 0 by omega), if_neg (show ¬ 0 - d = 0 by omega)]; done) | (simp [axI, axE, axA, hd, h4d, h1d]; done) | (simp [axI, axE, axA, sbL, sbH, hd, hdp, h4d, h1d]; done) | skip, rfl⟩)
    · have h4d := bsT h4
      have hdp : ¬ d < 0 := h4d
      have g'15 := (jn @h4 (jn @h4d g'13))
      refine runTf g'15 ?_
      exact hQ _ _ (end_plain (.inl rfl) hbel (x := .agg [.int .i64 (a - p), .int .i64 d, .int .i64 (b - p), .int .i64 d, .bool false, .bool false]) (resT Tryz.results322) rfl ⟨by first | (rw [hax.1, hax.2, hx1.1, hx1.2, hx0.1, hx0.2]; unfold axI; rw [if_neg hd, if_neg hd, if_neg hd, if_neg hd, if_neg (show ¬ 0 - d = 0 by omega), if_neg (show ¬ 0 - d = 0 by omega), if_neg (show ¬ 0 - d = 0 by omega), if_neg (show ¬ 0 - d = 0 by omega)]; done) | (simp [axI, axE, axA, hd, h4d, h1d]; done) | (simp [axI, axE, axA, sbL, sbH, hd, hdp, h4d, h1d]; done) | skip, rfl⟩)
theorem axis_z (H : AHeap) (p d a b : Int) (h1 : -2097152 ≤ p ∧ p ≤ 2097152) (h2 : -67108864 ≤ d ∧ d ≤ 67108864) (h3 : -2097152 ≤ a ∧ a ≤ 2097152) (h4 : -2097152 ≤ b ∧ b ≤ 2097152) (h : decide (d = 0) = true) : ACalls Tryz.prog 322 [.int .i64 p, .int .i64 d, .int .i64 a, .int .i64 b] H (fun v H' => v = .agg [.int .i64 0, .int .i64 0, .int .i64 0, .int .i64 0, .bool (axE p d a b), .bool (!(axE p d a b))] ∧ H' = H) := by
  have q := axis_c H p d a b h1 h2 h3 h4
  unfold axA axI at q
  rw [h, if_pos (of_decide_eq_true h), if_pos (of_decide_eq_true h), if_pos (of_decide_eq_true h), if_pos (of_decide_eq_true h), Bool.true_and] at q
  exact q
theorem axis_n (H : AHeap) (p d a b : Int) (h1 : -2097152 ≤ p ∧ p ≤ 2097152) (h2 : -67108864 ≤ d ∧ d ≤ 67108864) (h3 : -2097152 ≤ a ∧ a ≤ 2097152) (h4 : -2097152 ≤ b ∧ b ≤ 2097152) (h : decide (d = 0) = false) : ACalls Tryz.prog 322 [.int .i64 p, .int .i64 d, .int .i64 a, .int .i64 b] H (fun v H' => v = .agg [.int .i64 (sbL p d a b).1, .int .i64 (sbL p d a b).2, .int .i64 (sbH p d a b).1, .int .i64 (sbH p d a b).2, .bool false, .bool false] ∧ H' = H) := by
  have q := axis_c H p d a b h1 h2 h3 h4
  have e := axE_n (p := p) (a := a) (b := b) (of_decide_eq_false h)
  unfold axI at q
  rw [if_neg (of_decide_eq_false h), if_neg (of_decide_eq_false h), if_neg (of_decide_eq_false h), if_neg (of_decide_eq_false h), e.1, e.2] at q
  exact q
open Go.RowKit
theorem times_c (H : AHeap) (px : Int) (py : Int) (vx : Int) (vy : Int) (vd : Int) (x0 : Int) (y0 : Int) (x1 : Int) (y1 : Int) (hg : thG px py vx vy vd x0 y0 x1 y1 = true) : ACalls Tryz.prog 281 [.agg [.int .i64 px, .int .i64 py], .agg [.int .i64 vx, .int .i64 vy, .int .i64 vd], .agg [.int .i64 x0, .int .i64 y0, .int .i64 x1, .int .i64 y1]] H (fun v H' => v = .agg [.int .i64 ((tiV px py vx vy x0 y0 x1 y1).1.1), .int .i64 ((tiV px py vx vy x0 y0 x1 y1).1.2), .int .i64 ((tiV px py vx vy x0 y0 x1 y1).2.1), .int .i64 ((tiV px py vx vy x0 y0 x1 y1).2.2), .bool (tmE px py vx vy x0 y0 x1 y1), .bool false] ∧ H' = H) := by
  have hz := (thG_vec hg).2
  have hvP := lnP_iff.1 (thG_iff.1 hg).1
  have hvV := vecB_iff.1 (thG_iff.1 hg).2.1
  have hvR := lnR_iff.1 (thG_iff.1 hg).2.2
  (refine ACalls_pieces Tryz.func281 _ rfl (Nat.le_of_ble_eq_true (by kernel_rfl)) rfl ?_; intro hbel Q hQ hQ' c hc; unfold Tryz.f281 at hc; simp only [Option.some.injEq] at hc; subst hc; clear hQ')
  refine AW_seqQ fun Q1 hn1 hr1 he1 => ?_
  have hQ1 := fun F H' h => hr1 F H' (hQ F H' h)
  refine AW_fin true try_mixed (by kernel_rfl) ?_
  refine runT ?_
  refine hn1 _ _ ?_
  refine AW_seqQ fun Q2 hn2 hr2 he2 => ?_
  have hQ2 := fun F H' h => hr2 F H' (hQ F H' h)
  refine AW_fin true try_mixed (by kernel_rfl) ?_
  refine runT ?_
  rcases Bool.eq_false_or_eq_true (decide (vx = 0)) with h1 | h1
  · have h1d := h1
    have hX0 : vx = 0 := by simpa using h1d
    refine call_v (by kernel_rfl) (axis_z _ px vx x0 x1 (by omega) (by omega) (by omega) (by omega) (by assumption)) ?_
    have g'1 := (jn @h1 @h1d)
    refine runTf g'1 ?_
    refine hn2 _ _ ?_
    refine AW_seqQ fun Q3 hn3 hr3 he3 => ?_
    have hQ3 := fun F H' h => hr3 F H' (hQ F H' h)
    refine AW_fin true try_mixed (by kernel_rfl) ?_
    refine runTf g'1 ?_
    rcases Bool.eq_false_or_eq_true (decide (vy = 0)) with h2 | h2
    · have h2d := h2
      have hY0 : vy = 0 := by simpa using h2d
      exact absurd ⟨hX0, hY0⟩ hz
    · have h2d := h2
      have hnY : ¬ vy = 0 := by simpa using h2d
      have haY := (axE_n (p := py) (a := y0) (b := y1) hnY).1
      have hbY := sb_bd (p := py) (d := vy) (a := y0) (b := y1) (by omega) (by omega) (by omega) (by omega) hnY
      obtain ⟨⟨hbY1, hbY2, hbY3⟩, hbY4, hbY5, hbY6⟩ := hbY
      have hpy5 := mul_bd (a := (sbL py vy y0 y1).1) (b := (sbL py vy y0 y1).2) (A := 8388608) (B := 67108864) (by omega) (by omega)
      have hpy7 := mul_bd (a := (sbL py vy y0 y1).1) (b := (sbH py vy y0 y1).2) (A := 8388608) (B := 67108864) (by omega) (by omega)
      have hpy13 := mul_bd (a := (sbH py vy y0 y1).1) (b := (sbL py vy y0 y1).2) (A := 8388608) (B := 67108864) (by omega) (by omega)
      have hpy15 := mul_bd (a := (sbH py vy y0 y1).1) (b := (sbH py vy y0 y1).2) (A := 8388608) (B := 67108864) (by omega) (by omega)
      try have hpq1 := mul_bd (a := (sbL px vx x0 x1).1) (b := (sbL py vy y0 y1).2) (A := 8388608) (B := 67108864) (by omega) (by omega)
      try have hpq3 := mul_bd (a := (sbL px vx x0 x1).1) (b := (sbH py vy y0 y1).2) (A := 8388608) (B := 67108864) (by omega) (by omega)
      try have hpq4 := mul_bd (a := (sbL py vy y0 y1).1) (b := (sbL px vx x0 x1).2) (A := 8388608) (B := 67108864) (by omega) (by omega)
      try have hpq6 := mul_bd (a := (sbL py vy y0 y1).1) (b := (sbH px vx x0 x1).2) (A := 8388608) (B := 67108864) (by omega) (by omega)
      try have hpq9 := mul_bd (a := (sbH px vx x0 x1).1) (b := (sbL py vy y0 y1).2) (A := 8388608) (B := 67108864) (by omega) (by omega)
      try have hpq11 := mul_bd (a := (sbH px vx x0 x1).1) (b := (sbH py vy y0 y1).2) (A := 8388608) (B := 67108864) (by omega) (by omega)
      try have hpq12 := mul_bd (a := (sbH py vy y0 y1).1) (b := (sbL px vx x0 x1).2) (A := 8388608) (B := 67108864) (by omega) (by omega)
      try have hpq14 := mul_bd (a := (sbH py vy y0 y1).1) (b := (sbH px vx x0 x1).2) (A := 8388608) (B := 67108864) (by omega) (by omega)
      refine call_v (by kernel_rfl) (axis_n _ py vy y0 y1 (by omega) (by omega) (by omega) (by omega) (by assumption)) ?_
      have g'2 := (jn @h2 (jn @h2d g'1))
      refine runTf g'2 ?_
      refine hn3 _ _ ?_
      refine AW_seqQ fun Q4 hn4 hr4 he4 => ?_
      have hQ4 := fun F H' h => hr4 F H' (hQ F H' h)
      refine AW_fin true try_mixed (by kernel_rfl) ?_
      refine runTf g'2 ?_
      refine gd_split (fun h3 => ?_) (fun h3 => ?_)
      · have h3d := bsT h3
        have haX := h3d
        have g'3 := (jn @h3 (jn @h3d g'2))
        refine runTf g'3 ?_
        refine hn4 _ _ ?_
        refine AW_seqQ fun Q5 hn5 hr5 he5 => ?_
        have hQ5 := fun F H' h => hr5 F H' (hQ F H' h)
        refine AW_fin true try_mixed (by kernel_rfl) ?_
        refine runTf g'3 ?_
        refine hn5 _ _ ?_
        refine AW_seqQ fun Q6 hn6 hr6 he6 => ?_
        have hQ6 := fun F H' h => hr6 F H' (hQ F H' h)
        refine AW_fin true try_mixed (by kernel_rfl) ?_
        refine runTf g'3 ?_
        refine hn6 _ _ ?_
        refine AW_seqQ fun Q7 hn7 hr7 he7 => ?_
        have hQ7 := fun F H' h => hr7 F H' (hQ F H' h)
        refine AW_seqQ fun Q8 hn8 hr8 he8 => ?_
        have hQ8 := fun F H' h => hr8 F H' (hQ7 F H' h)
        refine AW_fin true try_mixed (by kernel_rfl) ?_
        have q4 := decide_eq_false (Int.lt_irrefl (((sbL py vy y0 y1).1) * ((sbL py vy y0 y1).2)))
        have g'4 := (jn @q4 g'3)
        refine runTf g'4 ?_
        refine hn8 _ _ ?_
        refine AW_cond false (by rfl) (fun h => by cases h) (fun h => ?_)
        refine AW_fin true try_mixed (by kernel_rfl) ?_
        refine runTf g'4 ?_
        refine hn7 _ _ ?_
        refine AW_seqQ fun Q9 hn9 hr9 he9 => ?_
        have hQ9 := fun F H' h => hr9 F H' (hQ F H' h)
        refine AW_seqQ fun Q10 hn10 hr10 he10 => ?_
        have hQ10 := fun F H' h => hr10 F H' (hQ9 F H' h)
        refine AW_fin true try_mixed (by kernel_rfl) ?_
        have q5 := decide_eq_false (Int.lt_irrefl (((sbH py vy y0 y1).1) * ((sbH py vy y0 y1).2)))
        have g'5 := (jn @q5 g'4)
        refine runTf g'5 ?_
        refine hn10 _ _ ?_
        refine AW_cond false (by rfl) (fun h => by cases h) (fun h => ?_)
        refine AW_fin true try_mixed (by kernel_rfl) ?_
        refine runTf g'5 ?_
        refine hn9 _ _ ?_
        refine AW_fin true try_mixed (by kernel_rfl) ?_
        refine runTf g'5 ?_
        refine cond_split (fun h6 => ?_) (fun h6 => ?_)
        · have h6d := bsT h6
          have g'6 := (jn @h6 (jn @h6d g'5))
          refine runTf g'6 ?_
          refine cond_split (fun h7 => ?_) (fun h7 => ?_)
          · have h7d := bsT h7
            have g'7 := (jn @h7 (jn @h7d g'6))
            refine runTf g'7 ?_
            exact hQ _ _ (end_plain (.inl rfl) hbel (x := .agg [.int .i64 0, .int .i64 0, .int .i64 0, .int .i64 0, .bool true, .bool false]) (resT Tryz.results281) rfl ⟨by first | (unfold tiV; rw [hfinE]; rfl) | (simp only [tiV, tmE, tmS, tmL, tmH, mxF, mnF, lo0, haX, haY, h1d, h2d, h3d, h6d, h7d, if_neg hnX, if_neg hnY, Int.lt_irrefl, ite_self, if_true, if_false, decide_true, decide_false, Bool.or_true, Bool.or_false, Bool.or_self, Bool.false_eq_true]; done) | (simp only [tiV, tmE, tmS, tmL, tmH, mxF, mnF, lo0, haX, haY, h1d, h2d, h3d, h6d, h7d, if_pos hX0, if_neg hnY, Int.lt_irrefl, ite_self, if_true, if_false, decide_true, decide_false, Bool.or_true, Bool.or_false, Bool.or_self, Bool.false_eq_true]; done) | (simp only [tiV, tmE, tmS, tmL, tmH, mxF, mnF, lo0, haX, haY, h1d, h2d, h3d, h6d, h7d, if_neg hnX, if_pos hY0, Int.lt_irrefl, ite_self, if_true, if_false, decide_true, decide_false, Bool.or_true, Bool.or_false, Bool.or_self, Bool.false_eq_true]; done) | skip, rfl⟩)
          · have h7d := bsT h7
            have g'8 := (jn @h7 (jn @h7d g'6))
            refine runTf g'8 ?_
            exact hQ _ _ (end_plain (.inl rfl) hbel (x := .agg [.int .i64 0, .int .i64 1, .int .i64 ((sbH py vy y0 y1).1), .int .i64 ((sbH py vy y0 y1).2), .bool false, .bool false]) (resT Tryz.results281) rfl ⟨by first | (unfold tiV; rw [hfinE]; rfl) | (simp only [tiV, tmE, tmS, tmL, tmH, mxF, mnF, lo0, haX, haY, h1d, h2d, h3d, h6d, h7d, if_neg hnX, if_neg hnY, Int.lt_irrefl, ite_self, if_true, if_false, decide_true, decide_false, Bool.or_true, Bool.or_false, Bool.or_self, Bool.false_eq_true]; done) | (simp only [tiV, tmE, tmS, tmL, tmH, mxF, mnF, lo0, haX, haY, h1d, h2d, h3d, h6d, h7d, if_pos hX0, if_neg hnY, Int.lt_irrefl, ite_self, if_true, if_false, decide_true, decide_false, Bool.or_true, Bool.or_false, Bool.or_self, Bool.false_eq_true]; done) | (simp only [tiV, tmE, tmS, tmL, tmH, mxF, mnF, lo0, haX, haY, h1d, h2d, h3d, h6d, h7d, if_neg hnX, if_pos hY0, Int.lt_irrefl, ite_self, if_true, if_false, decide_true, decide_false, Bool.or_true, Bool.or_false, Bool.or_self, Bool.false_eq_true]; done) | skip, rfl⟩)
        · have h6d := bsT h6
          have g'9 := (jn @h6 (jn @h6d g'5))
          refine runTf g'9 ?_
          refine cond_split (fun h8 => ?_) (fun h8 => ?_)
          · have h8d := bsT h8
            have g'10 := (jn @h8 (jn @h8d g'9))
            refine runTf g'10 ?_
            exact hQ _ _ (end_plain (.inl rfl) hbel (x := .agg [.int .i64 0, .int .i64 0, .int .i64 0, .int .i64 0, .bool true, .bool false]) (resT Tryz.results281) rfl ⟨by first | (unfold tiV; rw [hfinE]; rfl) | (simp only [tiV, tmE, tmS, tmL, tmH, mxF, mnF, lo0, haX, haY, h1d, h2d, h3d, h6d, h8d, if_neg hnX, if_neg hnY, Int.lt_irrefl, ite_self, if_true, if_false, decide_true, decide_false, Bool.or_true, Bool.or_false, Bool.or_self, Bool.false_eq_true]; done) | (simp only [tiV, tmE, tmS, tmL, tmH, mxF, mnF, lo0, haX, haY, h1d, h2d, h3d, h6d, h8d, if_pos hX0, if_neg hnY, Int.lt_irrefl, ite_self, if_true, if_false, decide_true, decide_false, Bool.or_true, Bool.or_false, Bool.or_self, Bool.false_eq_true]; done) | (simp only [tiV, tmE, tmS, tmL, tmH, mxF, mnF, lo0, haX, haY, h1d, h2d, h3d, h6d, h8d, if_neg hnX, if_pos hY0, Int.lt_irrefl, ite_self, if_true, if_false, decide_true, decide_false, Bool.or_true, Bool.or_false, Bool.or_self, Bool.false_eq_true]; done) | skip, rfl⟩)
          · have h8d := bsT h8
            have g'11 := (jn @h8 (jn @h8d g'9))
            refine runTf g'11 ?_
            exact hQ _ _ (end_plain (.inl rfl) hbel (x := .agg [.int .i64 ((sbL py vy y0 y1).1), .int .i64 ((sbL py vy y0 y1).2), .int .i64 ((sbH py vy y0 y1).1), .int .i64 ((sbH py vy y0 y1).2), .bool false, .bool false]) (resT Tryz.results281) rfl ⟨by first | (unfold tiV; rw [hfinE]; rfl) | (simp only [tiV, tmE, tmS, tmL, tmH, mxF, mnF, lo0, haX, haY, h1d, h2d, h3d, h6d, h8d, if_neg hnX, if_neg hnY, Int.lt_irrefl, ite_self, if_true, if_false, decide_true, decide_false, Bool.or_true, Bool.or_false, Bool.or_self, Bool.false_eq_true]; done) | (simp only [tiV, tmE, tmS, tmL, tmH, mxF, mnF, lo0, haX, haY, h1d, h2d, h3d, h6d, h8d, if_pos hX0, if_neg hnY, Int.lt_irrefl, ite_self, if_true, if_false, decide_true, decide_false, Bool.or_true, Bool.or_false, Bool.or_self, Bool.false_eq_true]; done) | (simp only [tiV, tmE, tmS, tmL, tmH, mxF, mnF, lo0, haX, haY, h1d, h2d, h3d, h6d, h8d, if_neg hnX, if_pos hY0, Int.lt_irrefl, ite_self, if_true, if_false, decide_true, decide_false, Bool.or_true, Bool.or_false, Bool.or_self, Bool.false_eq_true]; done) | skip, rfl⟩)
      · have h3d := bsT h3
        have hfinE : tmE px py vx vy x0 y0 x1 y1 = true := by unfold tmE; rw [h3d]; rfl
        have g'12 := (jn @h3 (jn @h3d g'2))
        refine runTf g'12 ?_
        exact hQ4 _ _ (end_plain (.inl rfl) hbel (x := .agg [.int .i64 0, .int .i64 0, .int .i64 0, .int .i64 0, .bool true, .bool false]) (resT Tryz.results281) rfl ⟨by first | (unfold tiV; rw [hfinE]; rfl) | (simp only [tiV, tmE, tmS, tmL, tmH, mxF, mnF, lo0, haX, haY, h1d, h2d, h3d, hfinE, if_neg hnX, if_neg hnY, Int.lt_irrefl, ite_self, if_true, if_false, decide_true, decide_false, Bool.or_true, Bool.or_false, Bool.or_self, Bool.false_eq_true]; done) | (simp only [tiV, tmE, tmS, tmL, tmH, mxF, mnF, lo0, haX, haY, h1d, h2d, h3d, hfinE, if_pos hX0, if_neg hnY, Int.lt_irrefl, ite_self, if_true, if_false, decide_true, decide_false, Bool.or_true, Bool.or_false, Bool.or_self, Bool.false_eq_true]; done) | (simp only [tiV, tmE, tmS, tmL, tmH, mxF, mnF, lo0, haX, haY, h1d, h2d, h3d, hfinE, if_neg hnX, if_pos hY0, Int.lt_irrefl, ite_self, if_true, if_false, decide_true, decide_false, Bool.or_true, Bool.or_false, Bool.or_self, Bool.false_eq_true]; done) | skip, rfl⟩)
  · have h1d := h1
    have hnX : ¬ vx = 0 := by simpa using h1d
    have haX := (axE_n (p := px) (a := x0) (b := x1) hnX).1
    have hbX := sb_bd (p := px) (d := vx) (a := x0) (b := x1) (by omega) (by omega) (by omega) (by omega) hnX
    obtain ⟨⟨hbX1, hbX2, hbX3⟩, hbX4, hbX5, hbX6⟩ := hbX
    have hpx0 := mul_bd (a := (sbL px vx x0 x1).1) (b := (sbL px vx x0 x1).2) (A := 8388608) (B := 67108864) (by omega) (by omega)
    have hpx2 := mul_bd (a := (sbL px vx x0 x1).1) (b := (sbH px vx x0 x1).2) (A := 8388608) (B := 67108864) (by omega) (by omega)
    have hpx8 := mul_bd (a := (sbH px vx x0 x1).1) (b := (sbL px vx x0 x1).2) (A := 8388608) (B := 67108864) (by omega) (by omega)
    have hpx10 := mul_bd (a := (sbH px vx x0 x1).1) (b := (sbH px vx x0 x1).2) (A := 8388608) (B := 67108864) (by omega) (by omega)
    refine call_v (by kernel_rfl) (axis_n _ px vx x0 x1 (by omega) (by omega) (by omega) (by omega) (by assumption)) ?_
    have g'13 := (jn @h1 @h1d)
    refine runTf g'13 ?_
    refine hn2 _ _ ?_
    refine AW_seqQ fun Q11 hn11 hr11 he11 => ?_
    have hQ11 := fun F H' h => hr11 F H' (hQ F H' h)
    refine AW_fin true try_mixed (by kernel_rfl) ?_
    refine runTf g'13 ?_
    rcases Bool.eq_false_or_eq_true (decide (vy = 0)) with h9 | h9
    · have h9d := h9
      have hY0 : vy = 0 := by simpa using h9d
      refine call_v (by kernel_rfl) (axis_z _ py vy y0 y1 (by omega) (by omega) (by omega) (by omega) (by assumption)) ?_
      have g'14 := (jn @h9 (jn @h9d g'13))
      refine runTf g'14 ?_
      refine hn11 _ _ ?_
      refine AW_seqQ fun Q12 hn12 hr12 he12 => ?_
      have hQ12 := fun F H' h => hr12 F H' (hQ F H' h)
      refine AW_fin true try_mixed (by kernel_rfl) ?_
      refine runTf g'14 ?_
      refine cond_split (fun h10 => ?_) (fun h10 => ?_)
      · have h10d := bsT h10
        have hfinE : tmE px py vx vy x0 y0 x1 y1 = true := by unfold tmE; rw [h10d]; simp
        have g'15 := (jn @h10 (jn @h10d g'14))
        refine runTf g'15 ?_
        exact hQ12 _ _ (end_plain (.inl rfl) hbel (x := .agg [.int .i64 0, .int .i64 0, .int .i64 0, .int .i64 0, .bool true, .bool false]) (resT Tryz.results281) rfl ⟨by first | (unfold tiV; rw [hfinE]; rfl) | (simp only [tiV, tmE, tmS, tmL, tmH, mxF, mnF, lo0, haX, haY, h1d, h9d, h10d, hfinE, if_neg hnX, if_neg hnY, Int.lt_irrefl, ite_self, if_true, if_false, decide_true, decide_false, Bool.or_true, Bool.or_false, Bool.or_self, Bool.false_eq_true]; done) | (simp only [tiV, tmE, tmS, tmL, tmH, mxF, mnF, lo0, haX, haY, h1d, h9d, h10d, hfinE, if_pos hX0, if_neg hnY, Int.lt_irrefl, ite_self, if_true, if_false, decide_true, decide_false, Bool.or_true, Bool.or_false, Bool.or_self, Bool.false_eq_true]; done) | (simp only [tiV, tmE, tmS, tmL, tmH, mxF, mnF, lo0, haX, haY, h1d, h9d, h10d, hfinE, if_neg hnX, if_pos hY0, Int.lt_irrefl, ite_self, if_true, if_false, decide_true, decide_false, Bool.or_true, Bool.or_false, Bool.or_self, Bool.false_eq_true]; done) | skip, rfl⟩)
      · have h10d := bsT h10
        have haY := h10d
        have g'16 := (jn @h10 (jn @h10d g'14))
        refine runTf g'16 ?_
        refine hn12 _ _ ?_
        refine AW_seqQ fun Q13 hn13 hr13 he13 => ?_
        have hQ13 := fun F H' h => hr13 F H' (hQ F H' h)
        refine AW_fin true try_mixed (by kernel_rfl) ?_
        refine runTf g'16 ?_
        refine hn13 _ _ ?_
        refine AW_seqQ fun Q14 hn14 hr14 he14 => ?_
        have hQ14 := fun F H' h => hr14 F H' (hQ F H' h)
        refine AW_fin true try_mixed (by kernel_rfl) ?_
        refine runTf g'16 ?_
        refine hn14 _ _ ?_
        refine AW_seqQ fun Q15 hn15 hr15 he15 => ?_
        have hQ15 := fun F H' h => hr15 F H' (hQ F H' h)
        refine AW_seqQ fun Q16 hn16 hr16 he16 => ?_
        have hQ16 := fun F H' h => hr16 F H' (hQ15 F H' h)
        refine AW_fin true try_mixed (by kernel_rfl) ?_
        have q11 := decide_eq_false (Int.lt_irrefl (((sbL px vx x0 x1).1) * ((sbL px vx x0 x1).2)))
        have g'17 := (jn @q11 g'16)
        refine runTf g'17 ?_
        refine hn16 _ _ ?_
        refine AW_cond false (by rfl) (fun h => by cases h) (fun h => ?_)
        refine AW_fin true try_mixed (by kernel_rfl) ?_
        refine runTf g'17 ?_
        refine hn15 _ _ ?_
        refine AW_seqQ fun Q17 hn17 hr17 he17 => ?_
        have hQ17 := fun F H' h => hr17 F H' (hQ F H' h)
        refine AW_seqQ fun Q18 hn18 hr18 he18 => ?_
        have hQ18 := fun F H' h => hr18 F H' (hQ17 F H' h)
        refine AW_fin true try_mixed (by kernel_rfl) ?_
        have q12 := decide_eq_false (Int.lt_irrefl (((sbH px vx x0 x1).1) * ((sbH px vx x0 x1).2)))
        have g'18 := (jn @q12 g'17)
        refine runTf g'18 ?_
        refine hn18 _ _ ?_
        refine AW_cond false (by rfl) (fun h => by cases h) (fun h => ?_)
        refine AW_fin true try_mixed (by kernel_rfl) ?_
        refine runTf g'18 ?_
        refine hn17 _ _ ?_
        refine AW_fin true try_mixed (by kernel_rfl) ?_
        refine runTf g'18 ?_
        refine cond_split (fun h13 => ?_) (fun h13 => ?_)
        · have h13d := bsT h13
          have g'19 := (jn @h13 (jn @h13d g'18))
          refine runTf g'19 ?_
          refine cond_split (fun h14 => ?_) (fun h14 => ?_)
          · have h14d := bsT h14
            have g'20 := (jn @h14 (jn @h14d g'19))
            refine runTf g'20 ?_
            exact hQ _ _ (end_plain (.inl rfl) hbel (x := .agg [.int .i64 0, .int .i64 0, .int .i64 0, .int .i64 0, .bool true, .bool false]) (resT Tryz.results281) rfl ⟨by first | (unfold tiV; rw [hfinE]; rfl) | (simp only [tiV, tmE, tmS, tmL, tmH, mxF, mnF, lo0, haX, haY, h1d, h9d, h10d, h13d, h14d, if_neg hnX, if_neg hnY, Int.lt_irrefl, ite_self, if_true, if_false, decide_true, decide_false, Bool.or_true, Bool.or_false, Bool.or_self, Bool.false_eq_true]; done) | (simp only [tiV, tmE, tmS, tmL, tmH, mxF, mnF, lo0, haX, haY, h1d, h9d, h10d, h13d, h14d, if_pos hX0, if_neg hnY, Int.lt_irrefl, ite_self, if_true, if_false, decide_true, decide_false, Bool.or_true, Bool.or_false, Bool.or_self, Bool.false_eq_true]; done) | (simp only [tiV, tmE, tmS, tmL, tmH, mxF, mnF, lo0, haX, haY, h1d, h9d, h10d, h13d, h14d, if_neg hnX, if_pos hY0, Int.lt_irrefl, ite_self, if_true, if_false, decide_true, decide_false, Bool.or_true, Bool.or_false, Bool.or_self, Bool.false_eq_true]; done) | skip, rfl⟩)
          · have h14d := bsT h14
            have g'21 := (jn @h14 (jn @h14d g'19))
            refine runTf g'21 ?_
            exact hQ _ _ (end_plain (.inl rfl) hbel (x := .agg [.int .i64 0, .int .i64 1, .int .i64 ((sbH px vx x0 x1).1), .int .i64 ((sbH px vx x0 x1).2), .bool false, .bool false]) (resT Tryz.results281) rfl ⟨by first | (unfold tiV; rw [hfinE]; rfl) | (simp only [tiV, tmE, tmS, tmL, tmH, mxF, mnF, lo0, haX, haY, h1d, h9d, h10d, h13d, h14d, if_neg hnX, if_neg hnY, Int.lt_irrefl, ite_self, if_true, if_false, decide_true, decide_false, Bool.or_true, Bool.or_false, Bool.or_self, Bool.false_eq_true]; done) | (simp only [tiV, tmE, tmS, tmL, tmH, mxF, mnF, lo0, haX, haY, h1d, h9d, h10d, h13d, h14d, if_pos hX0, if_neg hnY, Int.lt_irrefl, ite_self, if_true, if_false, decide_true, decide_false, Bool.or_true, Bool.or_false, Bool.or_self, Bool.false_eq_true]; done) | (simp only [tiV, tmE, tmS, tmL, tmH, mxF, mnF, lo0, haX, haY, h1d, h9d, h10d, h13d, h14d, if_neg hnX, if_pos hY0, Int.lt_irrefl, ite_self, if_true, if_false, decide_true, decide_false, Bool.or_true, Bool.or_false, Bool.or_self, Bool.false_eq_true]; done) | skip, rfl⟩)
        · have h13d := bsT h13
          have g'22 := (jn @h13 (jn @h13d g'18))
          refine runTf g'22 ?_
          refine cond_split (fun h15 => ?_) (fun h15 => ?_)
          · have h15d := bsT h15
            have g'23 := (jn @h15 (jn @h15d g'22))
            refine runTf g'23 ?_
            exact hQ _ _ (end_plain (.inl rfl) hbel (x := .agg [.int .i64 0, .int .i64 0, .int .i64 0, .int .i64 0, .bool true, .bool false]) (resT Tryz.results281) rfl ⟨by first | (unfold tiV; rw [hfinE]; rfl) | (simp only [tiV, tmE, tmS, tmL, tmH, mxF, mnF, lo0, haX, haY, h1d, h9d, h10d, h13d, h15d, if_neg hnX, if_neg hnY, Int.lt_irrefl, ite_self, if_true, if_false, decide_true, decide_false, Bool.or_true, Bool.or_false, Bool.or_self, Bool.false_eq_true]; done) | (simp only [tiV, tmE, tmS, tmL, tmH, mxF, mnF, lo0, haX, haY, h1d, h9d, h10d, h13d, h15d, if_pos hX0, if_neg hnY, Int.lt_irrefl, ite_self, if_true, if_false, decide_true, decide_false, Bool.or_true, Bool.or_false, Bool.or_self, Bool.false_eq_true]; done) | (simp only [tiV, tmE, tmS, tmL, tmH, mxF, mnF, lo0, haX, haY, h1d, h9d, h10d, h13d, h15d, if_neg hnX, if_pos hY0, Int.lt_irrefl, ite_self, if_true, if_false, decide_true, decide_false, Bool.or_true, Bool.or_false, Bool.or_self, Bool.false_eq_true]; done) | skip, rfl⟩)
          · have h15d := bsT h15
            have g'24 := (jn @h15 (jn @h15d g'22))
            refine runTf g'24 ?_
            exact hQ _ _ (end_plain (.inl rfl) hbel (x := .agg [.int .i64 ((sbL px vx x0 x1).1), .int .i64 ((sbL px vx x0 x1).2), .int .i64 ((sbH px vx x0 x1).1), .int .i64 ((sbH px vx x0 x1).2), .bool false, .bool false]) (resT Tryz.results281) rfl ⟨by first | (unfold tiV; rw [hfinE]; rfl) | (simp only [tiV, tmE, tmS, tmL, tmH, mxF, mnF, lo0, haX, haY, h1d, h9d, h10d, h13d, h15d, if_neg hnX, if_neg hnY, Int.lt_irrefl, ite_self, if_true, if_false, decide_true, decide_false, Bool.or_true, Bool.or_false, Bool.or_self, Bool.false_eq_true]; done) | (simp only [tiV, tmE, tmS, tmL, tmH, mxF, mnF, lo0, haX, haY, h1d, h9d, h10d, h13d, h15d, if_pos hX0, if_neg hnY, Int.lt_irrefl, ite_self, if_true, if_false, decide_true, decide_false, Bool.or_true, Bool.or_false, Bool.or_self, Bool.false_eq_true]; done) | (simp only [tiV, tmE, tmS, tmL, tmH, mxF, mnF, lo0, haX, haY, h1d, h9d, h10d, h13d, h15d, if_neg hnX, if_pos hY0, Int.lt_irrefl, ite_self, if_true, if_false, decide_true, decide_false, Bool.or_true, Bool.or_false, Bool.or_self, Bool.false_eq_true]; done) | skip, rfl⟩)
    · have h9d := h9
      have hnY : ¬ vy = 0 := by simpa using h9d
      have haY := (axE_n (p := py) (a := y0) (b := y1) hnY).1
      have hbY := sb_bd (p := py) (d := vy) (a := y0) (b := y1) (by omega) (by omega) (by omega) (by omega) hnY
      obtain ⟨⟨hbY1, hbY2, hbY3⟩, hbY4, hbY5, hbY6⟩ := hbY
      have hpy5 := mul_bd (a := (sbL py vy y0 y1).1) (b := (sbL py vy y0 y1).2) (A := 8388608) (B := 67108864) (by omega) (by omega)
      have hpy7 := mul_bd (a := (sbL py vy y0 y1).1) (b := (sbH py vy y0 y1).2) (A := 8388608) (B := 67108864) (by omega) (by omega)
      have hpy13 := mul_bd (a := (sbH py vy y0 y1).1) (b := (sbL py vy y0 y1).2) (A := 8388608) (B := 67108864) (by omega) (by omega)
      have hpy15 := mul_bd (a := (sbH py vy y0 y1).1) (b := (sbH py vy y0 y1).2) (A := 8388608) (B := 67108864) (by omega) (by omega)
      try have hpq1 := mul_bd (a := (sbL px vx x0 x1).1) (b := (sbL py vy y0 y1).2) (A := 8388608) (B := 67108864) (by omega) (by omega)
      try have hpq3 := mul_bd (a := (sbL px vx x0 x1).1) (b := (sbH py vy y0 y1).2) (A := 8388608) (B := 67108864) (by omega) (by omega)
      try have hpq4 := mul_bd (a := (sbL py vy y0 y1).1) (b := (sbL px vx x0 x1).2) (A := 8388608) (B := 67108864) (by omega) (by omega)
      try have hpq6 := mul_bd (a := (sbL py vy y0 y1).1) (b := (sbH px vx x0 x1).2) (A := 8388608) (B := 67108864) (by omega) (by omega)
      try have hpq9 := mul_bd (a := (sbH px vx x0 x1).1) (b := (sbL py vy y0 y1).2) (A := 8388608) (B := 67108864) (by omega) (by omega)
      try have hpq11 := mul_bd (a := (sbH px vx x0 x1).1) (b := (sbH py vy y0 y1).2) (A := 8388608) (B := 67108864) (by omega) (by omega)
      try have hpq12 := mul_bd (a := (sbH py vy y0 y1).1) (b := (sbL px vx x0 x1).2) (A := 8388608) (B := 67108864) (by omega) (by omega)
      try have hpq14 := mul_bd (a := (sbH py vy y0 y1).1) (b := (sbH px vx x0 x1).2) (A := 8388608) (B := 67108864) (by omega) (by omega)
      refine call_v (by kernel_rfl) (axis_n _ py vy y0 y1 (by omega) (by omega) (by omega) (by omega) (by assumption)) ?_
      have g'25 := (jn @h9 (jn @h9d g'13))
      refine runTf g'25 ?_
      refine hn11 _ _ ?_
      refine AW_seqQ fun Q19 hn19 hr19 he19 => ?_
      have hQ19 := fun F H' h => hr19 F H' (hQ F H' h)
      refine AW_fin true try_mixed (by kernel_rfl) ?_
      refine runTf g'25 ?_
      refine hn19 _ _ ?_
      refine AW_seqQ fun Q20 hn20 hr20 he20 => ?_
      have hQ20 := fun F H' h => hr20 F H' (hQ F H' h)
      refine AW_fin true try_mixed (by kernel_rfl) ?_
      refine runTf g'25 ?_
      refine hn20 _ _ ?_
      refine AW_seqQ fun Q21 hn21 hr21 he21 => ?_
      have hQ21 := fun F H' h => hr21 F H' (hQ F H' h)
      refine AW_fin true try_mixed (by kernel_rfl) ?_
      refine runTf g'25 ?_
      refine hn21 _ _ ?_
      refine AW_seqQ fun Q22 hn22 hr22 he22 => ?_
      have hQ22 := fun F H' h => hr22 F H' (hQ F H' h)
      refine AW_seqQ fun Q23 hn23 hr23 he23 => ?_
      have hQ23 := fun F H' h => hr23 F H' (hQ22 F H' h)
      refine AW_fin true try_mixed (by kernel_rfl) ?_
      refine runTf g'25 ?_
      refine hn23 _ _ ?_
      refine AW_cond (decide ((((sbL px vx x0 x1).1) * ((sbL py vy y0 y1).2)) < (((sbL py vy y0 y1).1) * ((sbL px vx x0 x1).2)))) (by rfl) (fun h16 => ?_) (fun h16 => ?_)
      · have h16d := bsT h16
        refine AW_special1 true try_mixed [[0, 1, 2, 3, 4, 5, 6, 7], [0, 1, 2, 4, 5, 3, 6, 7]] (by kernel_rfl) (fun F2 H2 => F2 = [(6, .ptr (some (H.length, 0))), (7, .ptr (some (H.length + 1, 0))), (8, .ptr (some (H.length + 2, 0)))] ∧ H2 = H ++ [.cells true 0 [.int .i64 0, .int .i64 0, .int .i64 0, .int .i64 0, .bool false, .bool false], .cells true 0 [.int .i64 ((sbL py vy y0 y1).1), .int .i64 ((sbL py vy y0 y1).2), .int .i64 ((sbH px vx x0 x1).1), .int .i64 ((sbH px vx x0 x1).2), .bool false, .bool false], .cells true 0 [.int .i64 ((sbL py vy y0 y1).1), .int .i64 ((sbL py vy y0 y1).2), .int .i64 ((sbH py vy y0 y1).1), .int .i64 ((sbH py vy y0 y1).2), .bool false, .bool false]]) ?_ ?_
        · refine reps_cons ?_ (reps_cons ?_ (reps_nil)) <;> intro J hJ
          · skip
            have g'26 := (jn @h16 (jn @h16d g'25))
            refine runDf g'26 ?_
            refine inv_of (hJ _ _ ⟨_, _, _, ⟨rfl, rfl⟩, Abs.byG hbel [] rfl [3, 4, 5] (by decide) ?_⟩)
            exact absW
          · skip
            have g'27 := (jn @h16 (jn @h16d g'25))
            refine runDf g'27 ?_
            refine inv_of (hJ _ _ ⟨_, _, _, ⟨rfl, rfl⟩, Abs.byG hbel [] rfl [3, 4, 5] (by decide) ?_⟩)
            exact absW
        rintro F2 H2 ⟨rfl, rfl⟩
        refine hn22 _ _ ?_
        refine AW_seqQ fun Q24 hn24 hr24 he24 => ?_
        have hQ24 := fun F H' h => hr24 F H' (hQ F H' h)
        refine AW_seqQ fun Q25 hn25 hr25 he25 => ?_
        have hQ25 := fun F H' h => hr25 F H' (hQ24 F H' h)
        refine AW_fin true try_mixed (by kernel_rfl) ?_
        have g'28 := (jn @h16 (jn @h16d g'25))
        refine runTf g'28 ?_
        refine hn25 _ _ ?_
        refine AW_cond (decide ((((sbH py vy y0 y1).1) * ((sbH px vx x0 x1).2)) < (((sbH px vx x0 x1).1) * ((sbH py vy y0 y1).2)))) (by rfl) (fun h17 => ?_) (fun h17 => ?_)
        · have h17d := bsT h17
          refine AW_special1 true try_mixed [[0, 1, 2, 3, 4, 5, 6, 7], [0, 1, 2, 4, 5, 3, 6, 7]] (by kernel_rfl) (fun F2 H2 => F2 = [(6, .ptr (some (H.length, 0))), (7, .ptr (some (H.length + 1, 0)))] ∧ H2 = H ++ [.cells true 0 [.int .i64 0, .int .i64 0, .int .i64 0, .int .i64 0, .bool false, .bool false], .cells true 0 [.int .i64 ((sbL py vy y0 y1).1), .int .i64 ((sbL py vy y0 y1).2), .int .i64 ((sbH py vy y0 y1).1), .int .i64 ((sbH py vy y0 y1).2), .bool false, .bool false]]) ?_ ?_
          · refine reps_cons ?_ (reps_cons ?_ (reps_nil)) <;> intro J hJ
            · skip
              have g'29 := (jn @h17 (jn @h17d g'28))
              refine runDf g'29 ?_
              refine inv_of (hJ _ _ ⟨_, _, _, ⟨rfl, rfl⟩, Abs.byG hbel [] rfl [0, 1] (by decide) ?_⟩)
              exact absW
            · skip
              have g'30 := (jn @h17 (jn @h17d g'28))
              refine runDf g'30 ?_
              refine inv_of (hJ _ _ ⟨_, _, _, ⟨rfl, rfl⟩, Abs.byG hbel [] rfl [0, 1] (by decide) ?_⟩)
              exact absW
          rintro F2 H2 ⟨rfl, rfl⟩
          refine hn24 _ _ ?_
          refine AW_fin true try_mixed (by kernel_rfl) ?_
          have g'31 := (jn @h17 (jn @h17d g'28))
          refine runTf g'31 ?_
          refine cond_split (fun h18 => ?_) (fun h18 => ?_)
          · have h18d := bsT h18
            have g'32 := (jn @h18 (jn @h18d g'31))
            refine runTf g'32 ?_
            refine cond_split (fun h19 => ?_) (fun h19 => ?_)
            · have h19d := bsT h19
              have g'33 := (jn @h19 (jn @h19d g'32))
              refine runTf g'33 ?_
              exact hQ _ _ (end_plain (.inl rfl) hbel (x := .agg [.int .i64 0, .int .i64 0, .int .i64 0, .int .i64 0, .bool true, .bool false]) (resT Tryz.results281) rfl ⟨by first | (unfold tiV; rw [hfinE]; rfl) | (simp only [tiV, tmE, tmS, tmL, tmH, mxF, mnF, lo0, haX, haY, h1d, h9d, h16d, h17d, h18d, h19d, if_neg hnX, if_neg hnY, Int.lt_irrefl, ite_self, if_true, if_false, decide_true, decide_false, Bool.or_true, Bool.or_false, Bool.or_self, Bool.false_eq_true]; done) | (simp only [tiV, tmE, tmS, tmL, tmH, mxF, mnF, lo0, haX, haY, h1d, h9d, h16d, h17d, h18d, h19d, if_pos hX0, if_neg hnY, Int.lt_irrefl, ite_self, if_true, if_false, decide_true, decide_false, Bool.or_true, Bool.or_false, Bool.or_self, Bool.false_eq_true]; done) | (simp only [tiV, tmE, tmS, tmL, tmH, mxF, mnF, lo0, haX, haY, h1d, h9d, h16d, h17d, h18d, h19d, if_neg hnX, if_pos hY0, Int.lt_irrefl, ite_self, if_true, if_false, decide_true, decide_false, Bool.or_true, Bool.or_false, Bool.or_self, Bool.false_eq_true]; done) | skip, rfl⟩)
            · have h19d := bsT h19
              have g'34 := (jn @h19 (jn @h19d g'32))
              refine runTf g'34 ?_
              exact hQ _ _ (end_plain (.inl rfl) hbel (x := .agg [.int .i64 0, .int .i64 1, .int .i64 ((sbH py vy y0 y1).1), .int .i64 ((sbH py vy y0 y1).2), .bool false, .bool false]) (resT Tryz.results281) rfl ⟨by first | (unfold tiV; rw [hfinE]; rfl) | (simp only [tiV, tmE, tmS, tmL, tmH, mxF, mnF, lo0, haX, haY, h1d, h9d, h16d, h17d, h18d, h19d, if_neg hnX, if_neg hnY, Int.lt_irrefl, ite_self, if_true, if_false, decide_true, decide_false, Bool.or_true, Bool.or_false, Bool.or_self, Bool.false_eq_true]; done) | (simp only [tiV, tmE, tmS, tmL, tmH, mxF, mnF, lo0, haX, haY, h1d, h9d, h16d, h17d, h18d, h19d, if_pos hX0, if_neg hnY, Int.lt_irrefl, ite_self, if_true, if_false, decide_true, decide_false, Bool.or_true, Bool.or_false, Bool.or_self, Bool.false_eq_true]; done) | (simp only [tiV, tmE, tmS, tmL, tmH, mxF, mnF, lo0, haX, haY, h1d, h9d, h16d, h17d, h18d, h19d, if_neg hnX, if_pos hY0, Int.lt_irrefl, ite_self, if_true, if_false, decide_true, decide_false, Bool.or_true, Bool.or_false, Bool.or_self, Bool.false_eq_true]; done) | skip, rfl⟩)
          · have h18d := bsT h18
            have g'35 := (jn @h18 (jn @h18d g'31))
            refine runTf g'35 ?_
            refine cond_split (fun h20 => ?_) (fun h20 => ?_)
            · have h20d := bsT h20
              have g'36 := (jn @h20 (jn @h20d g'35))
              refine runTf g'36 ?_
              exact hQ _ _ (end_plain (.inl rfl) hbel (x := .agg [.int .i64 0, .int .i64 0, .int .i64 0, .int .i64 0, .bool true, .bool false]) (resT Tryz.results281) rfl ⟨by first | (unfold tiV; rw [hfinE]; rfl) | (simp only [tiV, tmE, tmS, tmL, tmH, mxF, mnF, lo0, haX, haY, h1d, h9d, h16d, h17d, h18d, h20d, if_neg hnX, if_neg hnY, Int.lt_irrefl, ite_self, if_true, if_false, decide_true, decide_false, Bool.or_true, Bool.or_false, Bool.or_self, Bool.false_eq_true]; done) | (simp only [tiV, tmE, tmS, tmL, tmH, mxF, mnF, lo0, haX, haY, h1d, h9d, h16d, h17d, h18d, h20d, if_pos hX0, if_neg hnY, Int.lt_irrefl, ite_self, if_true, if_false, decide_true, decide_false, Bool.or_true, Bool.or_false, Bool.or_self, Bool.false_eq_true]; done) | (simp only [tiV, tmE, tmS, tmL, tmH, mxF, mnF, lo0, haX, haY, h1d, h9d, h16d, h17d, h18d, h20d, if_neg hnX, if_pos hY0, Int.lt_irrefl, ite_self, if_true, if_false, decide_true, decide_false, Bool.or_true, Bool.or_false, Bool.or_self, Bool.false_eq_true]; done) | skip, rfl⟩)
            · have h20d := bsT h20
              have g'37 := (jn @h20 (jn @h20d g'35))
              refine runTf g'37 ?_
              exact hQ _ _ (end_plain (.inl rfl) hbel (x := .agg [.int .i64 ((sbL py vy y0 y1).1), .int .i64 ((sbL py vy y0 y1).2), .int .i64 ((sbH py vy y0 y1).1), .int .i64 ((sbH py vy y0 y1).2), .bool false, .bool false]) (resT Tryz.results281) rfl ⟨by first | (unfold tiV; rw [hfinE]; rfl) | (simp only [tiV, tmE, tmS, tmL, tmH, mxF, mnF, lo0, haX, haY, h1d, h9d, h16d, h17d, h18d, h20d, if_neg hnX, if_neg hnY, Int.lt_irrefl, ite_self, if_true, if_false, decide_true, decide_false, Bool.or_true, Bool.or_false, Bool.or_self, Bool.false_eq_true]; done) | (simp only [tiV, tmE, tmS, tmL, tmH, mxF, mnF, lo0, haX, haY, h1d, h9d, h16d, h17d, h18d, h20d, if_pos hX0, if_neg hnY, Int.lt_irrefl, ite_self, if_true, if_false, decide_true, decide_false, Bool.or_true, Bool.or_false, Bool.or_self, Bool.false_eq_true]; done) | (simp only [tiV, tmE, tmS, tmL, tmH, mxF, mnF, lo0, haX, haY, h1d, h9d, h16d, h17d, h18d, h20d, if_neg hnX, if_pos hY0, Int.lt_irrefl, ite_self, if_true, if_false, decide_true, decide_false, Bool.or_true, Bool.or_false, Bool.or_self, Bool.false_eq_true]; done) | skip, rfl⟩)
        · have h17d := bsT h17
          refine AW_fin true try_mixed (by kernel_rfl) ?_
          have g'38 := (jn @h17 (jn @h17d g'28))
          refine runTf g'38 ?_
          refine hn24 _ _ ?_
          refine AW_fin true try_mixed (by kernel_rfl) ?_
          refine runTf g'38 ?_
          refine cond_split (fun h21 => ?_) (fun h21 => ?_)
          · have h21d := bsT h21
            have g'39 := (jn @h21 (jn @h21d g'38))
            refine runTf g'39 ?_
            refine cond_split (fun h22 => ?_) (fun h22 => ?_)
            · have h22d := bsT h22
              have g'40 := (jn @h22 (jn @h22d g'39))
              refine runTf g'40 ?_
              exact hQ _ _ (end_plain (.inl rfl) hbel (x := .agg [.int .i64 0, .int .i64 0, .int .i64 0, .int .i64 0, .bool true, .bool false]) (resT Tryz.results281) rfl ⟨by first | (unfold tiV; rw [hfinE]; rfl) | (simp only [tiV, tmE, tmS, tmL, tmH, mxF, mnF, lo0, haX, haY, h1d, h9d, h16d, h17d, h21d, h22d, if_neg hnX, if_neg hnY, Int.lt_irrefl, ite_self, if_true, if_false, decide_true, decide_false, Bool.or_true, Bool.or_false, Bool.or_self, Bool.false_eq_true]; done) | (simp only [tiV, tmE, tmS, tmL, tmH, mxF, mnF, lo0, haX, haY, h1d, h9d, h16d, h17d, h21d, h22d, if_pos hX0, if_neg hnY, Int.lt_irrefl, ite_self, if_true, if_false, decide_true, decide_false, Bool.or_true, Bool.or_false, Bool.or_self, Bool.false_eq_true]; done) | (simp only [tiV, tmE, tmS, tmL, tmH, mxF, mnF, lo0, haX, haY, h1d, h9d, h16d, h17d, h21d, h22d, if_neg hnX, if_pos hY0, Int.lt_irrefl, ite_self, if_true, if_false, decide_true, decide_false, Bool.or_true, Bool.or_false, Bool.or_self, Bool.false_eq_true]; done) | skip, rfl⟩)
            · have h22d := bsT h22
              have g'41 := (jn @h22 (jn @h22d g'39))
              refine runTf g'41 ?_
              exact hQ _ _ (end_plain (.inl rfl) hbel (x := .agg [.int .i64 0, .int .i64 1, .int .i64 ((sbH px vx x0 x1).1), .int .i64 ((sbH px vx x0 x1).2), .bool false, .bool false]) (resT Tryz.results281) rfl ⟨by first | (unfold tiV; rw [hfinE]; rfl) | (simp only [tiV, tmE, tmS, tmL, tmH, mxF, mnF, lo0, haX, haY, h1d, h9d, h16d, h17d, h21d, h22d, if_neg hnX, if_neg hnY, Int.lt_irrefl, ite_self, if_true, if_false, decide_true, decide_false, Bool.or_true, Bool.or_false, Bool.or_self, Bool.false_eq_true]; done) | (simp only [tiV, tmE, tmS, tmL, tmH, mxF, mnF, lo0, haX, haY, h1d, h9d, h16d, h17d, h21d, h22d, if_pos hX0, if_neg hnY, Int.lt_irrefl, ite_self, if_true, if_false, decide_true, decide_false, Bool.or_true, Bool.or_false, Bool.or_self, Bool.false_eq_true]; done) | (simp only [tiV, tmE, tmS, tmL, tmH, mxF, mnF, lo0, haX, haY, h1d, h9d, h16d, h17d, h21d, h22d, if_neg hnX, if_pos hY0, Int.lt_irrefl, ite_self, if_true, if_false, decide_true, decide_false, Bool.or_true, Bool.or_false, Bool.or_self, Bool.false_eq_true]; done) | skip, rfl⟩)
          · have h21d := bsT h21
            have g'42 := (jn @h21 (jn @h21d g'38))
            refine runTf g'42 ?_
            refine cond_split (fun h23 => ?_) (fun h23 => ?_)
            · have h23d := bsT h23
              have g'43 := (jn @h23 (jn @h23d g'42))
              refine runTf g'43 ?_
              exact hQ _ _ (end_plain (.inl rfl) hbel (x := .agg [.int .i64 0, .int .i64 0, .int .i64 0, .int .i64 0, .bool true, .bool false]) (resT Tryz.results281) rfl ⟨by first | (unfold tiV; rw [hfinE]; rfl) | (simp only [tiV, tmE, tmS, tmL, tmH, mxF, mnF, lo0, haX, haY, h1d, h9d, h16d, h17d, h21d, h23d, if_neg hnX, if_neg hnY, Int.lt_irrefl, ite_self, if_true, if_false, decide_true, decide_false, Bool.or_true, Bool.or_false, Bool.or_self, Bool.false_eq_true]; done) | (simp only [tiV, tmE, tmS, tmL, tmH, mxF, mnF, lo0, haX, haY, h1d, h9d, h16d, h17d, h21d, h23d, if_pos hX0, if_neg hnY, Int.lt_irrefl, ite_self, if_true, if_false, decide_true, decide_false, Bool.or_true, Bool.or_false, Bool.or_self, Bool.false_eq_true]; done) | (simp only [tiV, tmE, tmS, tmL, tmH, mxF, mnF, lo0, haX, haY, h1d, h9d, h16d, h17d, h21d, h23d, if_neg hnX, if_pos hY0, Int.lt_irrefl, ite_self, if_true, if_false, decide_true, decide_false, Bool.or_true, Bool.or_false, Bool.or_self, Bool.false_eq_true]; done) | skip, rfl⟩)
            · have h23d := bsT h23
              have g'44 := (jn @h23 (jn @h23d g'42))
              refine runTf g'44 ?_
              exact hQ _ _ (end_plain (.inl rfl) hbel (x := .agg [.int .i64 ((sbL py vy y0 y1).1), .int .i64 ((sbL py vy y0 y1).2), .int .i64 ((sbH px vx x0 x1).1), .int .i64 ((sbH px vx x0 x1).2), .bool false, .bool false]) (resT Tryz.results281) rfl ⟨by first | (unfold tiV; rw [hfinE]; rfl) | (simp only [tiV, tmE, tmS, tmL, tmH, mxF, mnF, lo0, haX, haY, h1d, h9d, h16d, h17d, h21d, h23d, if_neg hnX, if_neg hnY, Int.lt_irrefl, ite_self, if_true, if_false, decide_true, decide_false, Bool.or_true, Bool.or_false, Bool.or_self, Bool.false_eq_true]; done) | (simp only [tiV, tmE, tmS, tmL, tmH, mxF, mnF, lo0, haX, haY, h1d, h9d, h16d, h17d, h21d, h23d, if_pos hX0, if_neg hnY, Int.lt_irrefl, ite_self, if_true, if_false, decide_true, decide_false, Bool.or_true, Bool.or_false, Bool.or_self, Bool.false_eq_true]; done) | (simp only [tiV, tmE, tmS, tmL, tmH, mxF, mnF, lo0, haX, haY, h1d, h9d, h16d, h17d, h21d, h23d, if_neg hnX, if_pos hY0, Int.lt_irrefl, ite_self, if_true, if_false, decide_true, decide_false, Bool.or_true, Bool.or_false, Bool.or_self, Bool.false_eq_true]; done) | skip, rfl⟩)
      · have h16d := bsT h16
        refine AW_fin true try_mixed (by kernel_rfl) ?_
        have g'45 := (jn @h16 (jn @h16d g'25))
        refine runTf g'45 ?_
        refine hn22 _ _ ?_
        refine AW_seqQ fun Q26 hn26 hr26 he26 => ?_
        have hQ26 := fun F H' h => hr26 F H' (hQ F H' h)
        refine AW_seqQ fun Q27 hn27 hr27 he27 => ?_
        have hQ27 := fun F H' h => hr27 F H' (hQ26 F H' h)
        refine AW_fin true try_mixed (by kernel_rfl) ?_
        refine runTf g'45 ?_
        refine hn27 _ _ ?_
        refine AW_cond (decide ((((sbH py vy y0 y1).1) * ((sbH px vx x0 x1).2)) < (((sbH px vx x0 x1).1) * ((sbH py vy y0 y1).2)))) (by rfl) (fun h24 => ?_) (fun h24 => ?_)
        · have h24d := bsT h24
          refine AW_special1 true try_mixed [[0, 1, 2, 3, 4, 5, 6, 7], [0, 1, 2, 4, 5, 3, 6, 7]] (by kernel_rfl) (fun F2 H2 => F2 = [(6, .ptr (some (H.length, 0))), (7, .ptr (some (H.length + 1, 0)))] ∧ H2 = H ++ [.cells true 0 [.int .i64 0, .int .i64 0, .int .i64 0, .int .i64 0, .bool false, .bool false], .cells true 0 [.int .i64 ((sbL px vx x0 x1).1), .int .i64 ((sbL px vx x0 x1).2), .int .i64 ((sbH py vy y0 y1).1), .int .i64 ((sbH py vy y0 y1).2), .bool false, .bool false]]) ?_ ?_
          · refine reps_cons ?_ (reps_cons ?_ (reps_nil)) <;> intro J hJ
            · skip
              have g'46 := (jn @h24 (jn @h24d g'45))
              refine runDf g'46 ?_
              refine inv_of (hJ _ _ ⟨_, _, _, ⟨rfl, rfl⟩, Abs.byG hbel [] rfl [3, 4] (by decide) ?_⟩)
              exact absW
            · skip
              have g'47 := (jn @h24 (jn @h24d g'45))
              refine runDf g'47 ?_
              refine inv_of (hJ _ _ ⟨_, _, _, ⟨rfl, rfl⟩, Abs.byG hbel [] rfl [3, 4] (by decide) ?_⟩)
              exact absW
          rintro F2 H2 ⟨rfl, rfl⟩
          refine hn26 _ _ ?_
          refine AW_fin true try_mixed (by kernel_rfl) ?_
          have g'48 := (jn @h24 (jn @h24d g'45))
          refine runTf g'48 ?_
          refine cond_split (fun h25 => ?_) (fun h25 => ?_)
          · have h25d := bsT h25
            have g'49 := (jn @h25 (jn @h25d g'48))
            refine runTf g'49 ?_
            refine cond_split (fun h26 => ?_) (fun h26 => ?_)
            · have h26d := bsT h26
              have g'50 := (jn @h26 (jn @h26d g'49))
              refine runTf g'50 ?_
              exact hQ _ _ (end_plain (.inl rfl) hbel (x := .agg [.int .i64 0, .int .i64 0, .int .i64 0, .int .i64 0, .bool true, .bool false]) (resT Tryz.results281) rfl ⟨by first | (unfold tiV; rw [hfinE]; rfl) | (simp only [tiV, tmE, tmS, tmL, tmH, mxF, mnF, lo0, haX, haY, h1d, h9d, h16d, h24d, h25d, h26d, if_neg hnX, if_neg hnY, Int.lt_irrefl, ite_self, if_true, if_false, decide_true, decide_false, Bool.or_true, Bool.or_false, Bool.or_self, Bool.false_eq_true]; done) | (simp only [tiV, tmE, tmS, tmL, tmH, mxF, mnF, lo0, haX, haY, h1d, h9d, h16d, h24d, h25d, h26d, if_pos hX0, if_neg hnY, Int.lt_irrefl, ite_self, if_true, if_false, decide_true, decide_false, Bool.or_true, Bool.or_false, Bool.or_self, Bool.false_eq_true]; done) | (simp only [tiV, tmE, tmS, tmL, tmH, mxF, mnF, lo0, haX, haY, h1d, h9d, h16d, h24d, h25d, h26d, if_neg hnX, if_pos hY0, Int.lt_irrefl, ite_self, if_true, if_false, decide_true, decide_false, Bool.or_true, Bool.or_false, Bool.or_self, Bool.false_eq_true]; done) | skip, rfl⟩)
            · have h26d := bsT h26
              have g'51 := (jn @h26 (jn @h26d g'49))
              refine runTf g'51 ?_
              exact hQ _ _ (end_plain (.inl rfl) hbel (x := .agg [.int .i64 0, .int .i64 1, .int .i64 ((sbH py vy y0 y1).1), .int .i64 ((sbH py vy y0 y1).2), .bool false, .bool false]) (resT Tryz.results281) rfl ⟨by first | (unfold tiV; rw [hfinE]; rfl) | (simp only [tiV, tmE, tmS, tmL, tmH, mxF, mnF, lo0, haX, haY, h1d, h9d, h16d, h24d, h25d, h26d, if_neg hnX, if_neg hnY, Int.lt_irrefl, ite_self, if_true, if_false, decide_true, decide_false, Bool.or_true, Bool.or_false, Bool.or_self, Bool.false_eq_true]; done) | (simp only [tiV, tmE, tmS, tmL, tmH, mxF, mnF, lo0, haX, haY, h1d, h9d, h16d, h24d, h25d, h26d, if_pos hX0, if_neg hnY, Int.lt_irrefl, ite_self, if_true, if_false, decide_true, decide_false, Bool.or_true, Bool.or_false, Bool.or_self, Bool.false_eq_true]; done) | (simp only [tiV, tmE, tmS, tmL, tmH, mxF, mnF, lo0, haX, haY, h1d, h9d, h16d, h24d, h25d, h26d, if_neg hnX, if_pos hY0, Int.lt_irrefl, ite_self, if_true, if_false, decide_true, decide_false, Bool.or_true, Bool.or_false, Bool.or_self, Bool.false_eq_true]; done) | skip, rfl⟩)
          · have h25d := bsT h25
            have g'52 := (jn @h25 (jn @h25d g'48))
            refine runTf g'52 ?_
            refine cond_split (fun h27 => ?_) (fun h27 => ?_)
            · have h27d := bsT h27
              have g'53 := (jn @h27 (jn @h27d g'52))
              refine runTf g'53 ?_
              exact hQ _ _ (end_plain (.inl rfl) hbel (x := .agg [.int .i64 0, .int .i64 0, .int .i64 0, .int .i64 0, .bool true, .bool false]) (resT Tryz.results281) rfl ⟨by first | (unfold tiV; rw [hfinE]; rfl) | (simp only [tiV, tmE, tmS, tmL, tmH, mxF, mnF, lo0, haX, haY, h1d, h9d, h16d, h24d, h25d, h27d, if_neg hnX, if_neg hnY, Int.lt_irrefl, ite_self, if_true, if_false, decide_true, decide_false, Bool.or_true, Bool.or_false, Bool.or_self, Bool.false_eq_true]; done) | (simp only [tiV, tmE, tmS, tmL, tmH, mxF, mnF, lo0, haX, haY, h1d, h9d, h16d, h24d, h25d, h27d, if_pos hX0, if_neg hnY, Int.lt_irrefl, ite_self, if_true, if_false, decide_true, decide_false, Bool.or_true, Bool.or_false, Bool.or_self, Bool.false_eq_true]; done) | (simp only [tiV, tmE, tmS, tmL, tmH, mxF, mnF, lo0, haX, haY, h1d, h9d, h16d, h24d, h25d, h27d, if_neg hnX, if_pos hY0, Int.lt_irrefl, ite_self, if_true, if_false, decide_true, decide_false, Bool.or_true, Bool.or_false, Bool.or_self, Bool.false_eq_true]; done) | skip, rfl⟩)
            · have h27d := bsT h27
              have g'54 := (jn @h27 (jn @h27d g'52))
              refine runTf g'54 ?_
              exact hQ _ _ (end_plain (.inl rfl) hbel (x := .agg [.int .i64 ((sbL px vx x0 x1).1), .int .i64 ((sbL px vx x0 x1).2), .int .i64 ((sbH py vy y0 y1).1), .int .i64 ((sbH py vy y0 y1).2), .bool false, .bool false]) (resT Tryz.results281) rfl ⟨by first | (unfold tiV; rw [hfinE]; rfl) | (simp only [tiV, tmE, tmS, tmL, tmH, mxF, mnF, lo0, haX, haY, h1d, h9d, h16d, h24d, h25d, h27d, if_neg hnX, if_neg hnY, Int.lt_irrefl, ite_self, if_true, if_false, decide_true, decide_false, Bool.or_true, Bool.or_false, Bool.or_self, Bool.false_eq_true]; done) | (simp only [tiV, tmE, tmS, tmL, tmH, mxF, mnF, lo0, haX, haY, h1d, h9d, h16d, h24d, h25d, h27d, if_pos hX0, if_neg hnY, Int.lt_irrefl, ite_self, if_true, if_false, decide_true, decide_false, Bool.or_true, Bool.or_false, Bool.or_self, Bool.false_eq_true]; done) | (simp only [tiV, tmE, tmS, tmL, tmH, mxF, mnF, lo0, haX, haY, h1d, h9d, h16d, h24d, h25d, h27d, if_neg hnX, if_pos hY0, Int.lt_irrefl, ite_self, if_true, if_false, decide_true, decide_false, Bool.or_true, Bool.or_false, Bool.or_self, Bool.false_eq_true]; done) | skip, rfl⟩)
        · have h24d := bsT h24
          refine AW_fin true try_mixed (by kernel_rfl) ?_
          have g'55 := (jn @h24 (jn @h24d g'45))
          refine runTf g'55 ?_
          refine hn26 _ _ ?_
          refine AW_fin true try_mixed (by kernel_rfl) ?_
          refine runTf g'55 ?_
          refine cond_split (fun h28 => ?_) (fun h28 => ?_)
          · have h28d := bsT h28
            have g'56 := (jn @h28 (jn @h28d g'55))
            refine runTf g'56 ?_
            refine cond_split (fun h29 => ?_) (fun h29 => ?_)
            · have h29d := bsT h29
              have g'57 := (jn @h29 (jn @h29d g'56))
              refine runTf g'57 ?_
              exact hQ _ _ (end_plain (.inl rfl) hbel (x := .agg [.int .i64 0, .int .i64 0, .int .i64 0, .int .i64 0, .bool true, .bool false]) (resT Tryz.results281) rfl ⟨by first | (unfold tiV; rw [hfinE]; rfl) | (simp only [tiV, tmE, tmS, tmL, tmH, mxF, mnF, lo0, haX, haY, h1d, h9d, h16d, h24d, h28d, h29d, if_neg hnX, if_neg hnY, Int.lt_irrefl, ite_self, if_true, if_false, decide_true, decide_false, Bool.or_true, Bool.or_false, Bool.or_self, Bool.false_eq_true]; done) | (simp only [tiV, tmE, tmS, tmL, tmH, mxF, mnF, lo0, haX, haY, h1d, h9d, h16d, h24d, h28d, h29d, if_pos hX0, if_neg hnY, Int.lt_irrefl, ite_self, if_true, if_false, decide_true, decide_false, Bool.or_true, Bool.or_false, Bool.or_self, Bool.false_eq_true]; done) | (simp only [tiV, tmE, tmS, tmL, tmH, mxF, mnF, lo0, haX, haY, h1d, h9d, h16d, h24d, h28d, h29d, if_neg hnX, if_pos hY0, Int.lt_irrefl, ite_self, if_true, if_false, decide_true, decide_false, Bool.or_true, Bool.or_false, Bool.or_self, Bool.false_eq_true]; done) | skip, rfl⟩)
            · have h29d := bsT h29
              have g'58 := (jn @h29 (jn @h29d g'56))
              refine runTf g'58 ?_
              exact hQ _ _ (end_plain (.inl rfl) hbel (x := .agg [.int .i64 0, .int .i64 1, .int .i64 ((sbH px vx x0 x1).1), .int .i64 ((sbH px vx x0 x1).2), .bool false, .bool false]) (resT Tryz.results281) rfl ⟨by first | (unfold tiV; rw [hfinE]; rfl) | (simp only [tiV, tmE, tmS, tmL, tmH, mxF, mnF, lo0, haX, haY, h1d, h9d, h16d, h24d, h28d, h29d, if_neg hnX, if_neg hnY, Int.lt_irrefl, ite_self, if_true, if_false, decide_true, decide_false, Bool.or_true, Bool.or_false, Bool.or_self, Bool.false_eq_true]; done) | (simp only [tiV, tmE, tmS, tmL, tmH, mxF, mnF, lo0, haX, haY, h1d, h9d, h16d, h24d, h28d, h29d, if_pos hX0, if_neg hnY, Int.lt_irrefl, ite_self, if_true, if_false, decide_true, decide_false, Bool.or_true, Bool.or_false, Bool.or_self, Bool.false_eq_true]; done) | (simp only [tiV, tmE, tmS, tmL, tmH, mxF, mnF, lo0, haX, haY, h1d, h9d, h16d, h24d, h28d, h29d, if_neg hnX, if_pos hY0, Int.lt_irrefl, ite_self, if_true, if_false, decide_true, decide_false, Bool.or_true, Bool.or_false, Bool.or_self, Bool.false_eq_true]; done) | skip, rfl⟩)
          · have h28d := bsT h28
            have g'59 := (jn @h28 (jn @h28d g'55))
            refine runTf g'59 ?_
            refine cond_split (fun h30 => ?_) (fun h30 => ?_)
            · have h30d := bsT h30
              have g'60 := (jn @h30 (jn @h30d g'59))
              refine runTf g'60 ?_
              exact hQ _ _ (end_plain (.inl rfl) hbel (x := .agg [.int .i64 0, .int .i64 0, .int .i64 0, .int .i64 0, .bool true, .bool false]) (resT Tryz.results281) rfl ⟨by first | (unfold tiV; rw [hfinE]; rfl) | (simp only [tiV, tmE, tmS, tmL, tmH, mxF, mnF, lo0, haX, haY, h1d, h9d, h16d, h24d, h28d, h30d, if_neg hnX, if_neg hnY, Int.lt_irrefl, ite_self, if_true, if_false, decide_true, decide_false, Bool.or_true, Bool.or_false, Bool.or_self, Bool.false_eq_true]; done) | (simp only [tiV, tmE, tmS, tmL, tmH, mxF, mnF, lo0, haX, haY, h1d, h9d, h16d, h24d, h28d, h30d, if_pos hX0, if_neg hnY, Int.lt_irrefl, ite_self, if_true, if_false, decide_true, decide_false, Bool.or_true, Bool.or_false, Bool.or_self, Bool.false_eq_true]; done) | (simp only [tiV, tmE, tmS, tmL, tmH, mxF, mnF, lo0, haX, haY, h1d, h9d, h16d, h24d, h28d, h30d, if_neg hnX, if_pos hY0, Int.lt_irrefl, ite_self, if_true, if_false, decide_true, decide_false, Bool.or_true, Bool.or_false, Bool.or_self, Bool.false_eq_true]; done) | skip, rfl⟩)
            · have h30d := bsT h30
              have g'61 := (jn @h30 (jn @h30d g'59))
              refine runTf g'61 ?_
              exact hQ _ _ (end_plain (.inl rfl) hbel (x := .agg [.int .i64 ((sbL px vx x0 x1).1), .int .i64 ((sbL px vx x0 x1).2), .int .i64 ((sbH px vx x0 x1).1), .int .i64 ((sbH px vx x0 x1).2), .bool false, .bool false]) (resT Tryz.results281) rfl ⟨by first | (unfold tiV; rw [hfinE]; rfl) | (simp only [tiV, tmE, tmS, tmL, tmH, mxF, mnF, lo0, haX, haY, h1d, h9d, h16d, h24d, h28d, h30d, if_neg hnX, if_neg hnY, Int.lt_irrefl, ite_self, if_true, if_false, decide_true, decide_false, Bool.or_true, Bool.or_false, Bool.or_self, Bool.false_eq_true]; done) | (simp only [tiV, tmE, tmS, tmL, tmH, mxF, mnF, lo0, haX, haY, h1d, h9d, h16d, h24d, h28d, h30d, if_pos hX0, if_neg hnY, Int.lt_irrefl, ite_self, if_true, if_false, decide_true, decide_false, Bool.or_true, Bool.or_false, Bool.or_self, Bool.false_eq_true]; done) | (simp only [tiV, tmE, tmS, tmL, tmH, mxF, mnF, lo0, haX, haY, h1d, h9d, h16d, h24d, h28d, h30d, if_neg hnX, if_pos hY0, Int.lt_irrefl, ite_self, if_true, if_false, decide_true, decide_false, Bool.or_true, Bool.or_false, Bool.or_self, Bool.false_eq_true]; done) | skip, rfl⟩)
open Go.RowKit
theorem times_t (H : AHeap) (px py vx vy vd x0 y0 x1 y1 : Int) (hg : thG px py vx vy vd x0 y0 x1 y1 = true) (h : tmE px py vx vy x0 y0 x1 y1 = true) : ACalls Tryz.prog 281 [.agg [.int .i64 px, .int .i64 py], .agg [.int .i64 vx, .int .i64 vy, .int .i64 vd], .agg [.int .i64 x0, .int .i64 y0, .int .i64 x1, .int .i64 y1]] H (fun v H' => v = .agg [.int .i64 0, .int .i64 0, .int .i64 0, .int .i64 0, .bool true, .bool false] ∧ H' = H) := by
  have q := times_c H px py vx vy vd x0 y0 x1 y1 hg
  simp only [tiV, h, if_true] at q; exact q
theorem times_f (H : AHeap) (px py vx vy vd x0 y0 x1 y1 : Int) (hg : thG px py vx vy vd x0 y0 x1 y1 = true) (h : tmE px py vx vy x0 y0 x1 y1 = false) : ACalls Tryz.prog 281 [.agg [.int .i64 px, .int .i64 py], .agg [.int .i64 vx, .int .i64 vy, .int .i64 vd], .agg [.int .i64 x0, .int .i64 y0, .int .i64 x1, .int .i64 y1]] H (fun v H' => v = .agg [.int .i64 (tmS px py vx vy x0 y0 x1 y1).1.1, .int .i64 (tmS px py vx vy x0 y0 x1 y1).1.2, .int .i64 (tmS px py vx vy x0 y0 x1 y1).2.1, .int .i64 (tmS px py vx vy x0 y0 x1 y1).2.2, .bool false, .bool false] ∧ H' = H) := by
  have q := times_c H px py vx vy vd x0 y0 x1 y1 hg
  simp only [tiV, h, if_false, Bool.false_eq_true] at q; exact q
theorem gcd5_n (H : AHeap) (a0 : Nat) (b0 : Nat) : ACalls Tryz.prog 323 [.int .i64 ((a0 : Nat) : Int), .int .i64 ((b0 : Nat) : Int)] H (fun v H' => v = .int .i64 ((Nat.gcd a0 b0 : Nat) : Int) ∧ H' = H) := by
  refine AcT true Tryz.func323 ?_; intro hbel Q hQ
  have g'1 := @rem_nat
  refine runTf g'1 ?_
  refine go_loop try_mixed (by kernel_rfl) (fun k F Hx => ∃ a : Nat, ∃ b : Nat, b = k ∧ Nat.gcd a b = Nat.gcd a0 b0 ∧ F = [(0, .int .i64 ((a : Nat) : Int)), (1, .int .i64 ((b : Nat) : Int))] ∧ H = Hx) (b0) ?_ ?_
  · refine ⟨_, _, _, ⟨a0, b0, by omega, rfl, rfl, rfl⟩, Abs.by0 hbel ?_⟩
    exact absW
  · rintro k0 F Hx ⟨a, b, hm0, hG, rfl, rfl⟩ J0 hJ0
    refine runTf g'1 ?_
    refine cond_split (fun h1 => ?_) (fun h1 => ?_)
    · have h1d := bsT h1
      have hlt : a % b < b := Nat.mod_lt _ (by omega)
      have g'2 := (jn @h1 (jn @h1d g'1))
      refine runTf g'2 ?_
      refine hJ0 _ _ ⟨a % b, by omega, _, _, _, ⟨b, a % b, by omega, by rw [← hG, gcd_step], rfl, rfl⟩, Abs.by0 hbel ?_⟩
      exact absW
    · have h1d := bsT h1
      obtain rfl : b = 0 := by omega
      rw [Nat.gcd_zero_right] at hG
      have hfing := hG
      have g'3 := (jn @h1 (jn @h1d g'1))
      refine runTf g'3 ?_
      exact hQ _ _ (end_plain0 (.inl rfl) hbel (x := .int .i64 ((a : Nat) : Int)) (resT Tryz.results323) rfl ⟨congrArg (AV.int .i64) (by rw [hfing]), rfl⟩)
theorem gcd5_x (H : AHeap) (n d : Int) (hn : 0 ≤ n) (hd : 0 ≤ d) : ACalls Tryz.prog 323 [.int .i64 n, .int .i64 d] H (fun v H' => v = .int .i64 ((Int.gcd n d : Nat) : Int) ∧ H' = H) := by
  obtain ⟨a, rfl⟩ := Int.eq_ofNat_of_zero_le hn
  obtain ⟨b, rfl⟩ := Int.eq_ofNat_of_zero_le hd
  exact gcd5_n H a b
theorem low5_c (H : AHeap) (n : Int) (d : Int) (hn : 0 ≤ n ∧ n ≤ 4611686018427387904) (hd : 0 < d ∧ d ≤ 4611686018427387904) : ACalls Tryz.prog 282 [.int .i64 n, .int .i64 d] H (fun v H' => v = .agg [.int .i64 (lwN n d), .int .i64 (lwD n d)] ∧ H' = H) := by
  have hg0 := gcd_pos (n := n) hd.1
  have t1 := tdiv_bd (a := n) (b := ((Int.gcd n d : Nat) : Int)) hg0 (by omega)
  have t2 := tdiv_bd (a := d) (b := ((Int.gcd n d : Nat) : Int)) hg0 (by omega)
  have hlw := lw_tdiv hn.1 hd.1
  refine AcT true Tryz.func282 ?_; intro hbel Q hQ
  refine runT ?_
  refine call_v (by kernel_rfl) (gcd5_x _ n d (by omega) (by omega)) ?_
  refine runT ?_
  exact hQ _ _ (end_plain (.inl rfl) hbel (x := .agg [.int .i64 (Int.tdiv n ((Int.gcd n d : Nat) : Int)), .int .i64 (Int.tdiv d ((Int.gcd n d : Nat) : Int))]) (resT Tryz.results282) rfl ⟨by rw [hlw.1, hlw.2], rfl⟩)
theorem r5ok_c (H : AHeap) (px : Int) (py : Int) (vx : Int) (vy : Int) (vd : Int) (x0 : Int) (y0 : Int) (x1 : Int) (y1 : Int) : ACalls Tryz.prog 280 [.agg [.int .i64 px, .int .i64 py], .agg [.int .i64 vx, .int .i64 vy, .int .i64 vd], .agg [.int .i64 x0, .int .i64 y0, .int .i64 x1, .int .i64 y1]] H (fun v H' => v = .bool (thG px py vx vy vd x0 y0 x1 y1) ∧ H' = H) := by
  refine AcT true Tryz.func280 ?_; intro hbel Q hQ
  refine runT ?_
  refine call_v (by kernel_rfl) (r5pt_c _ px py) ?_
  refine runT ?_
  refine gd_split (fun h1 => ?_) (fun h1 => ?_)
  · have h1d := bsT h1
    have g'4 := (jn @h1 @h1d)
    refine runTf g'4 ?_
    refine call_v (by kernel_rfl) (bvec_c _ vx vy vd) ?_
    refine runTf g'4 ?_
    refine gd_split (fun h2 => ?_) (fun h2 => ?_)
    · have h2d := bsT h2
      have g'5 := (jn @h2 (jn @h2d g'4))
      refine runTf g'5 ?_
      refine call_v (by kernel_rfl) (r5rc_c _ x0 y0 x1 y1) ?_
      refine runTf g'5 ?_
      exact hQ _ _ (end_plain (.inl rfl) hbel (x := .bool (lnR x0 y0 x1 y1)) (resT Tryz.results280) rfl ⟨by simp [thG, h1d, h2d], rfl⟩)
    · have h2d := bsT h2
      have g'6 := (jn @h2 (jn @h2d g'4))
      refine runTf g'6 ?_
      exact hQ _ _ (end_plain (.inl rfl) hbel (x := .bool false) (resT Tryz.results280) rfl ⟨by simp [thG, h1d, h2d], rfl⟩)
  · have h1d := bsT h1
    have g'7 := (jn @h1 @h1d)
    refine runTf g'7 ?_
    exact hQ _ _ (end_plain (.inl rfl) hbel (x := .bool false) (resT Tryz.results280) rfl ⟨by simp [thG, h1d], rfl⟩)
theorem renter_c (H : AHeap) (px : Int) (py : Int) (vx : Int) (vy : Int) (vd : Int) (x0 : Int) (y0 : Int) (x1 : Int) (y1 : Int) : ACalls Tryz.prog 226 [.agg [.int .i64 px, .int .i64 py], .agg [.int .i64 vx, .int .i64 vy, .int .i64 vd], .agg [.int .i64 x0, .int .i64 y0, .int .i64 x1, .int .i64 y1]] H (fun v H' => v = .tup [.agg [.int .i64 (mkV (rO px py vx vy vd x0 y0 x1 y1) (enN px py vx vy vd x0 y0 x1 y1)), .int .i64 (mkV (rO px py vx vy vd x0 y0 x1 y1) (enD px py vx vy vd x0 y0 x1 y1))], .bool (rO px py vx vy vd x0 y0 x1 y1)] ∧ H' = H) := by
  refine AcT true Tryz.func226 ?_; intro hbel Q hQ
  refine runT ?_
  refine call_v (by kernel_rfl) (r5ok_c _ px py vx vy vd x0 y0 x1 y1) ?_
  refine runT ?_
  refine cond_split (fun h1 => ?_) (fun h1 => ?_)
  · have h1d := bsT h1
    have hfinO : rO px py vx vy vd x0 y0 x1 y1 = false := by unfold rO; rw [h1d]; rfl
    have g'8 := (jn @h1 @h1d)
    refine runTf g'8 ?_
    exact hQ _ _ (end_plain (.inl rfl) hbel (x := .tup [.agg [.int .i64 0, .int .i64 0], .bool false]) (resT Tryz.results226) rfl ⟨by unfold mkV; rw [hfinO]; rfl, rfl⟩)
  · have h1d := bsT h1
    have hg := h1d
    have hbd := tmS_bd hg
    obtain ⟨⟨hb1, hb2⟩, hb3, hb4⟩ := hbd
    have hvv := vecB_iff.1 (thG_iff.1 hg).2.1
    have hm1 := mul_bd (a := (tmS px py vx vy x0 y0 x1 y1).1.1) (b := vd) (A := 8388608) (B := 67108864) (by omega) (by omega)
    have hm2 := mul_bd (a := (tmS px py vx vy x0 y0 x1 y1).2.1) (b := vd) (A := 8388608) (B := 67108864) (by omega) (by omega)
    have hn1 := Int.mul_nonneg (tmS_nn (px := px) (py := py) (vx := vx) (vy := vy) (x0 := x0) (y0 := y0) (x1 := x1) (y1 := y1)) (show 0 ≤ vd by omega)
    have g'9 := (jn @h1 @h1d)
    refine runTf g'9 ?_
    rcases Bool.eq_false_or_eq_true (tmE px py vx vy x0 y0 x1 y1) with h2 | h2
    · have h2d := h2
      have hfinO : rO px py vx vy vd x0 y0 x1 y1 = false := by unfold rO; rw [h2d]; simp
      refine call_v (by kernel_rfl) (times_t _ px py vx vy vd x0 y0 x1 y1 (by assumption) (by assumption)) ?_
      have g'10 := (jn @h2 (jn @h2d g'9))
      refine runTf g'10 ?_
      exact hQ _ _ (end_plain (.inl rfl) hbel (x := .tup [.agg [.int .i64 0, .int .i64 0], .bool false]) (resT Tryz.results226) rfl ⟨by unfold mkV; rw [hfinO]; rfl, rfl⟩)
    · have h2d := h2
      have hfinO : rO px py vx vy vd x0 y0 x1 y1 = true := by unfold rO; rw [h2d, hg]; rfl
      have hn2 := Int.mul_nonneg (tmS_hn hg h2d) (show 0 ≤ vd by omega)
      refine call_v (by kernel_rfl) (times_f _ px py vx vy vd x0 y0 x1 y1 (by assumption) (by assumption)) ?_
      have g'11 := (jn @h2 (jn @h2d g'9))
      refine runTf g'11 ?_
      refine call_v (by kernel_rfl) (low5_c _ (((tmS px py vx vy x0 y0 x1 y1).1.1) * vd) ((tmS px py vx vy x0 y0 x1 y1).1.2) (by omega) (by omega)) ?_
      refine runTf g'11 ?_
      exact hQ _ _ (end_plain (.inl rfl) hbel (x := .tup [.agg [.int .i64 (lwN (((tmS px py vx vy x0 y0 x1 y1).1.1) * vd) ((tmS px py vx vy x0 y0 x1 y1).1.2)), .int .i64 (lwD (((tmS px py vx vy x0 y0 x1 y1).1.1) * vd) ((tmS px py vx vy x0 y0 x1 y1).1.2))], .bool true]) (resT Tryz.results226) rfl ⟨by unfold mkV; rw [hfinO]; rfl, rfl⟩)
theorem renter_t (H : AHeap) (px py vx vy vd x0 y0 x1 y1 : Int) (h : rO px py vx vy vd x0 y0 x1 y1 = true) : ACalls Tryz.prog 226 [.agg [.int .i64 px, .int .i64 py], .agg [.int .i64 vx, .int .i64 vy, .int .i64 vd], .agg [.int .i64 x0, .int .i64 y0, .int .i64 x1, .int .i64 y1]] H (fun v H' => v = .tup [.agg [.int .i64 (enN px py vx vy vd x0 y0 x1 y1), .int .i64 (enD px py vx vy vd x0 y0 x1 y1)], .bool true] ∧ H' = H) := by
  have q := renter_c H px py vx vy vd x0 y0 x1 y1
  simp only [h, mkV, if_true] at q; exact q
theorem renter_f (H : AHeap) (px py vx vy vd x0 y0 x1 y1 : Int) (h : rO px py vx vy vd x0 y0 x1 y1 = false) : ACalls Tryz.prog 226 [.agg [.int .i64 px, .int .i64 py], .agg [.int .i64 vx, .int .i64 vy, .int .i64 vd], .agg [.int .i64 x0, .int .i64 y0, .int .i64 x1, .int .i64 y1]] H (fun v H' => v = .tup [.agg [.int .i64 0, .int .i64 0], .bool false] ∧ H' = H) := by
  have q := renter_c H px py vx vy vd x0 y0 x1 y1
  simp only [h, mkV, if_false, Bool.false_eq_true] at q; exact q
theorem rleave_c (H : AHeap) (px : Int) (py : Int) (vx : Int) (vy : Int) (vd : Int) (x0 : Int) (y0 : Int) (x1 : Int) (y1 : Int) : ACalls Tryz.prog 232 [.agg [.int .i64 px, .int .i64 py], .agg [.int .i64 vx, .int .i64 vy, .int .i64 vd], .agg [.int .i64 x0, .int .i64 y0, .int .i64 x1, .int .i64 y1]] H (fun v H' => v = .tup [.agg [.int .i64 (mkV (rO px py vx vy vd x0 y0 x1 y1) (lvN px py vx vy vd x0 y0 x1 y1)), .int .i64 (mkV (rO px py vx vy vd x0 y0 x1 y1) (lvD px py vx vy vd x0 y0 x1 y1))], .bool (rO px py vx vy vd x0 y0 x1 y1)] ∧ H' = H) := by
  refine AcT true Tryz.func232 ?_; intro hbel Q hQ
  refine runT ?_
  refine call_v (by kernel_rfl) (r5ok_c _ px py vx vy vd x0 y0 x1 y1) ?_
  refine runT ?_
  refine cond_split (fun h1 => ?_) (fun h1 => ?_)
  · have h1d := bsT h1
    have hfinO : rO px py vx vy vd x0 y0 x1 y1 = false := by unfold rO; rw [h1d]; rfl
    have g'12 := (jn @h1 @h1d)
    refine runTf g'12 ?_
    exact hQ _ _ (end_plain (.inl rfl) hbel (x := .tup [.agg [.int .i64 0, .int .i64 0], .bool false]) (resT Tryz.results232) rfl ⟨by unfold mkV; rw [hfinO]; rfl, rfl⟩)
  · have h1d := bsT h1
    have hg := h1d
    have hbd := tmS_bd hg
    obtain ⟨⟨hb1, hb2⟩, hb3, hb4⟩ := hbd
    have hvv := vecB_iff.1 (thG_iff.1 hg).2.1
    have hm1 := mul_bd (a := (tmS px py vx vy x0 y0 x1 y1).1.1) (b := vd) (A := 8388608) (B := 67108864) (by omega) (by omega)
    have hm2 := mul_bd (a := (tmS px py vx vy x0 y0 x1 y1).2.1) (b := vd) (A := 8388608) (B := 67108864) (by omega) (by omega)
    have hn1 := Int.mul_nonneg (tmS_nn (px := px) (py := py) (vx := vx) (vy := vy) (x0 := x0) (y0 := y0) (x1 := x1) (y1 := y1)) (show 0 ≤ vd by omega)
    have g'13 := (jn @h1 @h1d)
    refine runTf g'13 ?_
    rcases Bool.eq_false_or_eq_true (tmE px py vx vy x0 y0 x1 y1) with h2 | h2
    · have h2d := h2
      have hfinO : rO px py vx vy vd x0 y0 x1 y1 = false := by unfold rO; rw [h2d]; simp
      refine call_v (by kernel_rfl) (times_t _ px py vx vy vd x0 y0 x1 y1 (by assumption) (by assumption)) ?_
      have g'14 := (jn @h2 (jn @h2d g'13))
      refine runTf g'14 ?_
      exact hQ _ _ (end_plain (.inl rfl) hbel (x := .tup [.agg [.int .i64 0, .int .i64 0], .bool false]) (resT Tryz.results232) rfl ⟨by unfold mkV; rw [hfinO]; rfl, rfl⟩)
    · have h2d := h2
      have hfinO : rO px py vx vy vd x0 y0 x1 y1 = true := by unfold rO; rw [h2d, hg]; rfl
      have hn2 := Int.mul_nonneg (tmS_hn hg h2d) (show 0 ≤ vd by omega)
      refine call_v (by kernel_rfl) (times_f _ px py vx vy vd x0 y0 x1 y1 (by assumption) (by assumption)) ?_
      have g'15 := (jn @h2 (jn @h2d g'13))
      refine runTf g'15 ?_
      refine call_v (by kernel_rfl) (low5_c _ (((tmS px py vx vy x0 y0 x1 y1).2.1) * vd) ((tmS px py vx vy x0 y0 x1 y1).2.2) (by omega) (by omega)) ?_
      refine runTf g'15 ?_
      exact hQ _ _ (end_plain (.inl rfl) hbel (x := .tup [.agg [.int .i64 (lwN (((tmS px py vx vy x0 y0 x1 y1).2.1) * vd) ((tmS px py vx vy x0 y0 x1 y1).2.2)), .int .i64 (lwD (((tmS px py vx vy x0 y0 x1 y1).2.1) * vd) ((tmS px py vx vy x0 y0 x1 y1).2.2))], .bool true]) (resT Tryz.results232) rfl ⟨by unfold mkV; rw [hfinO]; rfl, rfl⟩)
theorem rleave_t (H : AHeap) (px py vx vy vd x0 y0 x1 y1 : Int) (h : rO px py vx vy vd x0 y0 x1 y1 = true) : ACalls Tryz.prog 232 [.agg [.int .i64 px, .int .i64 py], .agg [.int .i64 vx, .int .i64 vy, .int .i64 vd], .agg [.int .i64 x0, .int .i64 y0, .int .i64 x1, .int .i64 y1]] H (fun v H' => v = .tup [.agg [.int .i64 (lvN px py vx vy vd x0 y0 x1 y1), .int .i64 (lvD px py vx vy vd x0 y0 x1 y1)], .bool true] ∧ H' = H) := by
  have q := rleave_c H px py vx vy vd x0 y0 x1 y1
  simp only [h, mkV, if_true] at q; exact q
theorem rleave_f (H : AHeap) (px py vx vy vd x0 y0 x1 y1 : Int) (h : rO px py vx vy vd x0 y0 x1 y1 = false) : ACalls Tryz.prog 232 [.agg [.int .i64 px, .int .i64 py], .agg [.int .i64 vx, .int .i64 vy, .int .i64 vd], .agg [.int .i64 x0, .int .i64 y0, .int .i64 x1, .int .i64 y1]] H (fun v H' => v = .tup [.agg [.int .i64 0, .int .i64 0], .bool false] ∧ H' = H) := by
  have q := rleave_c H px py vx vy vd x0 y0 x1 y1
  simp only [h, mkV, if_false, Bool.false_eq_true] at q; exact q
theorem rmeets_c (H : AHeap) (px : Int) (py : Int) (vx : Int) (vy : Int) (vd : Int) (lo : Int) (hi : Int) (x0 : Int) (y0 : Int) (x1 : Int) (y1 : Int) : ACalls Tryz.prog 160 [.agg [.int .i64 px, .int .i64 py], .agg [.int .i64 vx, .int .i64 vy, .int .i64 vd], .int .i64 lo, .int .i64 hi, .agg [.int .i64 x0, .int .i64 y0, .int .i64 x1, .int .i64 y1]] H (fun v H' => v = .bool (smeB px py vx vy vd lo hi x0 y0 x1 y1) ∧ H' = H) := by
  refine AcT true Tryz.func160 ?_; intro hbel Q hQ
  refine runT ?_
  refine gd_split (fun h1 => ?_) (fun h1 => ?_)
  · have h1d := bsT h1
    have g'16 := (jn @h1 @h1d)
    refine runTf g'16 ?_
    refine gd_split (fun h2 => ?_) (fun h2 => ?_)
    · have h2d := bsT h2
      have g'17 := (jn @h2 (jn @h2d g'16))
      refine runTf g'17 ?_
      refine cond_split (fun h3 => ?_) (fun h3 => ?_)
      · have h3d := bsT h3
        have g'18 := (jn @h3 (jn @h3d g'17))
        refine runTf g'18 ?_
        exact hQ _ _ (end_plain (.inl rfl) hbel (x := .bool false) (resT Tryz.results160) rfl ⟨by first | (rw [hfinN.1]; done) | (refine congrArg AV.bool ?_; rw [Bool.eq_iff_iff, sme_ref]; unfold rmeeB; simp only [Bool.and_eq_true, decide_eq_true_eq, Bool.not_eq_true']; first | (simp only [hfinG, hfinE, true_and]; have e1 := (hel hi).1; have e2 := (hel lo).2.2; omega) | exact ⟨fun e => (by cases e), fun e => (by first | omega | (have e1 := (hel hi).1; have e2 := (hel lo).2.2; omega))⟩), rfl⟩)
      · have h3d := bsT h3
        have g'19 := (jn @h3 (jn @h3d g'17))
        refine runTf g'19 ?_
        rcases Bool.eq_false_or_eq_true (rO px py vx vy vd x0 y0 x1 y1) with h4 | h4
        · have h4d := h4
          have hrO := h4d
          have heb := en_bd hrO
          obtain ⟨⟨hb1, hb2⟩, hb3, hb4⟩ := heb
          have hfinG := (rO_t hrO).1
          have hfinE := (rO_t hrO).2
          have hm1 := mul_bd (a := hi) (b := enD px py vx vy vd x0 y0 x1 y1) (A := 65536) (B := 67108864) (by omega) (by omega)
          first | have hm2 := mul_bd (a := lo) (b := lvD px py vx vy vd x0 y0 x1 y1) (A := 65536) (B := 67108864) (by omega) (by omega) | skip
          have hel := fun z => en_le (hi := z) hrO
          refine call_v (by kernel_rfl) (renter_t _ px py vx vy vd x0 y0 x1 y1 (by assumption)) ?_
          have g'20 := (jn @h4 (jn @h4d g'19))
          refine runTf g'20 ?_
          refine call_v (by kernel_rfl) (rleave_t _ px py vx vy vd x0 y0 x1 y1 (by assumption)) ?_
          refine runTf g'20 ?_
          refine gd_split (fun h5 => ?_) (fun h5 => ?_)
          · have h5d := bsT h5
            have g'21 := (jn @h5 (jn @h5d g'20))
            refine runTf g'21 ?_
            exact hQ _ _ (end_plain (.inl rfl) hbel (x := .bool (decide ((lo * (lvD px py vx vy vd x0 y0 x1 y1)) ≤ (lvN px py vx vy vd x0 y0 x1 y1)))) (resT Tryz.results160) rfl ⟨by first | (rw [hfinN.1]; done) | (refine congrArg AV.bool ?_; rw [Bool.eq_iff_iff, sme_ref]; unfold rmeeB; simp only [Bool.and_eq_true, decide_eq_true_eq, Bool.not_eq_true']; first | (simp only [hfinG, hfinE, true_and]; have e1 := (hel hi).1; have e2 := (hel lo).2.2; omega) | exact ⟨fun e => (by cases e), fun e => (by first | omega | (have e1 := (hel hi).1; have e2 := (hel lo).2.2; omega))⟩), rfl⟩)
          · have h5d := bsT h5
            have g'22 := (jn @h5 (jn @h5d g'20))
            refine runTf g'22 ?_
            exact hQ _ _ (end_plain (.inl rfl) hbel (x := .bool false) (resT Tryz.results160) rfl ⟨by first | (rw [hfinN.1]; done) | (refine congrArg AV.bool ?_; rw [Bool.eq_iff_iff, sme_ref]; unfold rmeeB; simp only [Bool.and_eq_true, decide_eq_true_eq, Bool.not_eq_true']; first | (simp only [hfinG, hfinE, true_and]; have e1 := (hel hi).1; have e2 := (hel lo).2.2; omega) | exact ⟨fun e => (by cases e), fun e => (by first | omega | (have e1 := (hel hi).1; have e2 := (hel lo).2.2; omega))⟩), rfl⟩)
        · have h4d := h4
          have hfinN := rO_me (lo := lo) (hi := hi) h4d
          refine call_v (by kernel_rfl) (renter_f _ px py vx vy vd x0 y0 x1 y1 (by assumption)) ?_
          have g'23 := (jn @h4 (jn @h4d g'19))
          refine runTf g'23 ?_
          refine call_v (by kernel_rfl) (rleave_f _ px py vx vy vd x0 y0 x1 y1 (by assumption)) ?_
          refine runTf g'23 ?_
          exact hQ _ _ (end_plain (.inl rfl) hbel (x := .bool false) (resT Tryz.results160) rfl ⟨by first | (rw [hfinN.1]; done) | (refine congrArg AV.bool ?_; rw [Bool.eq_iff_iff, sme_ref]; unfold rmeeB; simp only [Bool.and_eq_true, decide_eq_true_eq, Bool.not_eq_true']; first | (simp only [hfinG, hfinE, true_and]; have e1 := (hel hi).1; have e2 := (hel lo).2.2; omega) | exact ⟨fun e => (by cases e), fun e => (by first | omega | (have e1 := (hel hi).1; have e2 := (hel lo).2.2; omega))⟩), rfl⟩)
    · have h2d := bsT h2
      have g'24 := (jn @h2 (jn @h2d g'16))
      refine runTf g'24 ?_
      exact hQ _ _ (end_plain (.inl rfl) hbel (x := .bool false) (resT Tryz.results160) rfl ⟨by first | (rw [hfinN.1]; done) | (refine congrArg AV.bool ?_; rw [Bool.eq_iff_iff, sme_ref]; unfold rmeeB; simp only [Bool.and_eq_true, decide_eq_true_eq, Bool.not_eq_true']; first | (simp only [hfinG, hfinE, true_and]; have e1 := (hel hi).1; have e2 := (hel lo).2.2; omega) | exact ⟨fun e => (by cases e), fun e => (by first | omega | (have e1 := (hel hi).1; have e2 := (hel lo).2.2; omega))⟩), rfl⟩)
  · have h1d := bsT h1
    have g'25 := (jn @h1 @h1d)
    refine runTf g'25 ?_
    exact hQ _ _ (end_plain (.inl rfl) hbel (x := .bool false) (resT Tryz.results160) rfl ⟨by first | (rw [hfinN.1]; done) | (refine congrArg AV.bool ?_; rw [Bool.eq_iff_iff, sme_ref]; unfold rmeeB; simp only [Bool.and_eq_true, decide_eq_true_eq, Bool.not_eq_true']; first | (simp only [hfinG, hfinE, true_and]; have e1 := (hel hi).1; have e2 := (hel lo).2.2; omega) | exact ⟨fun e => (by cases e), fun e => (by first | omega | (have e1 := (hel hi).1; have e2 := (hel lo).2.2; omega))⟩), rfl⟩)
theorem rbefore_c (H : AHeap) (px : Int) (py : Int) (vx : Int) (vy : Int) (vd : Int) (hi : Int) (x0 : Int) (y0 : Int) (x1 : Int) (y1 : Int) : ACalls Tryz.prog 150 [.agg [.int .i64 px, .int .i64 py], .agg [.int .i64 vx, .int .i64 vy, .int .i64 vd], .int .i64 hi, .agg [.int .i64 x0, .int .i64 y0, .int .i64 x1, .int .i64 y1]] H (fun v H' => v = .bool (sbfB px py vx vy vd hi x0 y0 x1 y1) ∧ H' = H) := by
  refine AcT true Tryz.func150 ?_; intro hbel Q hQ
  refine runT ?_
  refine gd_split (fun h1 => ?_) (fun h1 => ?_)
  · have h1d := bsT h1
    have g'26 := (jn @h1 @h1d)
    refine runTf g'26 ?_
    refine cond_split (fun h2 => ?_) (fun h2 => ?_)
    · have h2d := bsT h2
      have g'27 := (jn @h2 (jn @h2d g'26))
      refine runTf g'27 ?_
      exact hQ _ _ (end_plain (.inl rfl) hbel (x := .bool false) (resT Tryz.results150) rfl ⟨by first | (rw [hfinN.2]; done) | (refine congrArg AV.bool ?_; rw [Bool.eq_iff_iff, sbf_ref]; unfold rbefB; simp only [Bool.and_eq_true, decide_eq_true_eq, Bool.not_eq_true']; first | (simp only [hfinG, hfinE, true_and]; have e1 := (hel hi).2.1; omega) | exact ⟨fun e => (by cases e), fun e => (by first | omega | (have e1 := (hel hi).2.1; omega))⟩), rfl⟩)
    · have h2d := bsT h2
      have g'28 := (jn @h2 (jn @h2d g'26))
      refine runTf g'28 ?_
      rcases Bool.eq_false_or_eq_true (rO px py vx vy vd x0 y0 x1 y1) with h3 | h3
      · have h3d := h3
        have hrO := h3d
        have heb := en_bd hrO
        obtain ⟨⟨hb1, hb2⟩, hb3, hb4⟩ := heb
        have hfinG := (rO_t hrO).1
        have hfinE := (rO_t hrO).2
        have hm1 := mul_bd (a := hi) (b := enD px py vx vy vd x0 y0 x1 y1) (A := 65536) (B := 67108864) (by omega) (by omega)
        have hel := fun z => en_le (hi := z) hrO
        refine call_v (by kernel_rfl) (renter_t _ px py vx vy vd x0 y0 x1 y1 (by assumption)) ?_
        have g'29 := (jn @h3 (jn @h3d g'28))
        refine runTf g'29 ?_
        exact hQ _ _ (end_plain (.inl rfl) hbel (x := .bool (decide ((enN px py vx vy vd x0 y0 x1 y1) < (hi * (enD px py vx vy vd x0 y0 x1 y1))))) (resT Tryz.results150) rfl ⟨by first | (rw [hfinN.2]; done) | (refine congrArg AV.bool ?_; rw [Bool.eq_iff_iff, sbf_ref]; unfold rbefB; simp only [Bool.and_eq_true, decide_eq_true_eq, Bool.not_eq_true']; first | (simp only [hfinG, hfinE, true_and]; have e1 := (hel hi).2.1; omega) | exact ⟨fun e => (by cases e), fun e => (by first | omega | (have e1 := (hel hi).2.1; omega))⟩), rfl⟩)
      · have h3d := h3
        have hfinN := rO_me (lo := 0) (hi := hi) h3d
        refine call_v (by kernel_rfl) (renter_f _ px py vx vy vd x0 y0 x1 y1 (by assumption)) ?_
        have g'30 := (jn @h3 (jn @h3d g'28))
        refine runTf g'30 ?_
        exact hQ _ _ (end_plain (.inl rfl) hbel (x := .bool false) (resT Tryz.results150) rfl ⟨by first | (rw [hfinN.2]; done) | (refine congrArg AV.bool ?_; rw [Bool.eq_iff_iff, sbf_ref]; unfold rbefB; simp only [Bool.and_eq_true, decide_eq_true_eq, Bool.not_eq_true']; first | (simp only [hfinG, hfinE, true_and]; have e1 := (hel hi).2.1; omega) | exact ⟨fun e => (by cases e), fun e => (by first | omega | (have e1 := (hel hi).2.1; omega))⟩), rfl⟩)
  · have h1d := bsT h1
    have g'31 := (jn @h1 @h1d)
    refine runTf g'31 ?_
    exact hQ _ _ (end_plain (.inl rfl) hbel (x := .bool false) (resT Tryz.results150) rfl ⟨by first | (rw [hfinN.2]; done) | (refine congrArg AV.bool ?_; rw [Bool.eq_iff_iff, sbf_ref]; unfold rbefB; simp only [Bool.and_eq_true, decide_eq_true_eq, Bool.not_eq_true']; first | (simp only [hfinG, hfinE, true_and]; have e1 := (hel hi).2.1; omega) | exact ⟨fun e => (by cases e), fun e => (by first | omega | (have e1 := (hel hi).2.1; omega))⟩), rfl⟩)
theorem rminus_c (H : AHeap) (a0 : Int) (b0 : Int) (a1 : Int) (b1 : Int) (x0 : Int) (y0 : Int) (x1 : Int) (y1 : Int) (kba0 : -1099511627776 ≤ a0 ∧ a0 ≤ 1099511627776) (kbb0 : -1099511627776 ≤ b0 ∧ b0 ≤ 1099511627776) (kba1 : -1099511627776 ≤ a1 ∧ a1 ≤ 1099511627776) (kbb1 : -1099511627776 ≤ b1 ∧ b1 ≤ 1099511627776) (kbx0 : -1099511627776 ≤ x0 ∧ x0 ≤ 1099511627776) (kby0 : -1099511627776 ≤ y0 ∧ y0 ≤ 1099511627776) (kbx1 : -1099511627776 ≤ x1 ∧ x1 ≤ 1099511627776) (kby1 : -1099511627776 ≤ y1 ∧ y1 ≤ 1099511627776) : ACalls Tryz.prog 159 [.agg [.int .i64 a0, .int .i64 b0, .int .i64 a1, .int .i64 b1], .agg [.int .i64 x0, .int .i64 y0, .int .i64 x1, .int .i64 y1]] H (fun v H' => v = .tup [.agg [.int .i64 (mkV (mnsB a0 b0 a1 b1 x0 y0 x1 y1) (a0 - x1)), .int .i64 (mkV (mnsB a0 b0 a1 b1 x0 y0 x1 y1) (b0 - y1)), .int .i64 (mkV (mnsB a0 b0 a1 b1 x0 y0 x1 y1) (a1 - x0)), .int .i64 (mkV (mnsB a0 b0 a1 b1 x0 y0 x1 y1) (b1 - y0))], .bool (mnsB a0 b0 a1 b1 x0 y0 x1 y1)] ∧ H' = H) := by
  refine AcT true Tryz.func159 ?_; intro hbel Q hQ
  refine runT ?_
  refine call_v (by kernel_rfl) (r5rc_c _ a0 b0 a1 b1) ?_
  refine runT ?_
  refine gd_split (fun h1 => ?_) (fun h1 => ?_)
  · have h1d := bsT h1
    have g'32 := (jn @h1 @h1d)
    refine runTf g'32 ?_
    refine call_v (by kernel_rfl) (r5rc_c _ x0 y0 x1 y1) ?_
    refine runTf g'32 ?_
    refine cond_split (fun h2 => ?_) (fun h2 => ?_)
    · have h2d := bsT h2
      have g'33 := (jn @h2 (jn @h2d g'32))
      refine runTf g'33 ?_
      exact hQ _ _ (end_plain (.inl rfl) hbel (x := .tup [.agg [.int .i64 0, .int .i64 0, .int .i64 0, .int .i64 0], .bool false]) (resT Tryz.results159) rfl ⟨by simp [mnsB, mkV, h1d, h2d], rfl⟩)
    · have h2d := bsT h2
      have g'34 := (jn @h2 (jn @h2d g'32))
      refine runTf g'34 ?_
      refine call_v (by kernel_rfl) (r5rc_c _ (a0 - x1) (b0 - y1) (a1 - x0) (b1 - y0)) ?_
      refine runTf g'34 ?_
      refine cond_split (fun h3 => ?_) (fun h3 => ?_)
      · have h3d := bsT h3
        have g'35 := (jn @h3 (jn @h3d g'34))
        refine runTf g'35 ?_
        exact hQ _ _ (end_plain (.inl rfl) hbel (x := .tup [.agg [.int .i64 0, .int .i64 0, .int .i64 0, .int .i64 0], .bool false]) (resT Tryz.results159) rfl ⟨by simp [mnsB, mkV, h1d, h2d, h3d], rfl⟩)
      · have h3d := bsT h3
        have g'36 := (jn @h3 (jn @h3d g'34))
        refine runTf g'36 ?_
        exact hQ _ _ (end_plain (.inl rfl) hbel (x := .tup [.agg [.int .i64 (a0 - x1), .int .i64 (b0 - y1), .int .i64 (a1 - x0), .int .i64 (b1 - y0)], .bool true]) (resT Tryz.results159) rfl ⟨by simp [mnsB, mkV, h1d, h2d, h3d], rfl⟩)
  · have h1d := bsT h1
    have g'37 := (jn @h1 @h1d)
    refine runTf g'37 ?_
    exact hQ _ _ (end_plain (.inl rfl) hbel (x := .tup [.agg [.int .i64 0, .int .i64 0, .int .i64 0, .int .i64 0], .bool false]) (resT Tryz.results159) rfl ⟨by simp [mnsB, mkV, h1d], rfl⟩)
open Go.RowKit
open Go.RowKit
theorem fl_bd {m n d : Int} (hd : 0 < d) (hn : -d ≤ n ∧ n ≤ d) (hm : 0 ≤ m ∧ m ≤ 2048) : -2048 ≤ m * n / d ∧ m * n / d ≤ 2048 := by
  have a1 := Int.mul_le_mul_of_nonneg_left hn.1 hm.1
  have a2 := Int.mul_le_mul_of_nonneg_left hn.2 hm.1
  have a3 := Int.mul_le_mul_of_nonneg_right hm.2 (show 0 ≤ d by omega)
  have e : m * -d = -(m * d) := Int.mul_neg _ _
  exact ⟨(Int.le_ediv_iff_mul_le hd).2 (by omega), Int.ediv_le_of_le_mul hd (by omega)⟩
theorem rsw_eq {x0 y0 x1 y1 vx vy vd lo hi : Int} (hx : -1048576 ≤ x0 ∧ x0 ≤ x1 ∧ x1 ≤ 1048576) (hy : -1048576 ≤ y0 ∧ y0 ≤ y1 ∧ y1 ≤ 1048576) (hv : vecB vx vy vd = true) (h : 0 ≤ lo ∧ lo ≤ hi ∧ hi ≤ 2048) :
    gridR (swpP x0 y0 x1 y1 vx vy vd lo hi) (rchL x0 vx vd lo hi / 64 - 1) (arN (rchL x0 vx vd lo hi) (rchH x1 vx vd lo hi)) (rchL y0 vy vd lo hi / 64 - 1) (arN (rchL y0 vy vd lo hi) (rchH y1 vy vd lo hi)) = swpL x0 y0 x1 y1 vx vy vd lo hi := by
  have hvv := vecB_iff.1 hv
  have r1 := rch_bd (a := x0) (b := x1) (n := vx) (d := vd) (lo := lo) (hi := hi) (by omega) (by omega) h.1 h.2.1 h.2.2
  have r2 := rch_bd (a := y0) (b := y1) (n := vy) (d := vd) (lo := lo) (hi := hi) (by omega) (by omega) h.1 h.2.1 h.2.2
  have c1 := cel_bd2 (a := rchL x0 vx vd lo hi) (b := rchH x1 vx vd lo hi) (by omega)
  have c2 := cel_bd2 (a := rchL y0 vy vd lo hi) (b := rchH y1 vy vd lo hi) (by omega)
  have a1 := arN_bd2 (a := rchL x0 vx vd lo hi) (b := rchH x1 vx vd lo hi) (by omega)
  have a2 := arN_bd2 (a := rchL y0 vy vd lo hi) (b := rchH y1 vy vd lo hi) (by omega)
  refine swp_grid hx hy (by omega) (by omega) ?_ ?_ ?_ ?_
  · unfold spl; omega
  · unfold sph; omega
  · unfold spl; omega
  · unfold sph; omega
theorem rswept_c (H : AHeap) (x0 : Int) (y0 : Int) (x1 : Int) (y1 : Int) (vx : Int) (vy : Int) (vd : Int) (lo : Int) (hi : Int) : ACalls Tryz.prog 75 [.agg [.int .i64 x0, .int .i64 y0, .int .i64 x1, .int .i64 y1], .agg [.int .i64 vx, .int .i64 vy, .int .i64 vd], .int .i64 lo, .int .i64 hi] H (fun v H' => v = .tup [.sl (some (H.length, 0)) ((sptL x0 y0 x1 y1 vx vy vd lo hi).length) (capG (sptL x0 y0 x1 y1 vx vy vd lo hi).length), .int .i64 (sptE x0 y0 x1 y1 vx vy vd lo hi)] ∧ H' = H ++ [.cells (ownG (sptL x0 y0 x1 y1 vx vy vd lo hi).length) 2 (prs (sptL x0 y0 x1 y1 vx vy vd lo hi))]) := by
  refine AcL true Tryz.func75 ?_; intro hbel Q hQ
  refine runT ?_
  refine call_v (by kernel_rfl) (r8right_c _ x0 y0 x1 y1) ?_
  refine runT ?_
  refine gd_split (fun h1 => ?_) (fun h1 => ?_)
  · have h1d := bsT h1
    have hp1 : rctB x0 y0 x1 y1 = true := by rw [← rgtB_eq]; exact h1d
    have hp2 := rctB_iff.1 hp1
    have hx := hp2.1
    have hy := hp2.2
    have g'1 := (jn @h1 @h1d)
    refine runTf g'1 ?_
    refine call_v (by kernel_rfl) (bvec_c _ vx vy vd) ?_
    refine runTf g'1 ?_
    refine cond_split (fun h2 => ?_) (fun h2 => ?_)
    · have h2d := bsT h2
      have hz := sptE_1 (x0 := x0) (y0 := y0) (x1 := x1) (y1 := y1) (vx := vx) (vy := vy) (vd := vd) (lo := lo) (hi := hi) (fun hh => by rw [h2d] at hh; exact absurd hh.2 (by decide))
      have hfinE := hz.1
      have hfinL := hz.2
      have g'2 := (jn @h2 (jn @h2d g'1))
      refine runTf g'2 ?_
      refine hQ _ _ (end_byG (.inl rfl) hbel (x1 := .tup [.sl none 0 (some 0), .int .i64 1]) (l2 := [.cells false 2 []]) (.tup [.sl (some (H.length, 0)) 0 (some 0), .int .i64 1]) (resT Tryz.results75) [.cells false 2 []] rfl [2] (by decide) ⟨by first | (rw [hfinL, hfinE]; done) | (rw [hfinL, hfinE]; rfl) | (rw [hfinG, hfinL, hfinE]; done) | (rw [hfinG, hfinL, hfinE]; rfl), by first | (rw [hfinL]; done) | (rw [hfinL]; rfl) | (rw [hfinG, hfinL]; done) | (rw [hfinG, hfinL]; rfl)⟩ ?_)
      exact absW
    · have h2d := bsT h2
      have hv := h2d
      have g'3 := (jn @h2 (jn @h2d g'1))
      refine runTf g'3 ?_
      refine gd_split (fun h3 => ?_) (fun h3 => ?_)
      · have h3d := bsT h3
        have g'4 := (jn @h3 (jn @h3d g'3))
        refine runTf g'4 ?_
        refine gd_split (fun h4 => ?_) (fun h4 => ?_)
        · have h4d := bsT h4
          have g'5 := (jn @h4 (jn @h4d g'4))
          refine runTf g'5 ?_
          refine cond_split (fun h5 => ?_) (fun h5 => ?_)
          · have h5d := bsT h5
            have hz := sptE_2 (lo := lo) (hi := hi) hp1 hv (by omega)
            have hfinE := hz.1
            have hfinL := hz.2
            have g'6 := (jn @h5 (jn @h5d g'5))
            refine runTf g'6 ?_
            refine hQ _ _ (end_byG (.inl rfl) hbel (x1 := .tup [.sl none 0 (some 0), .int .i64 2]) (l2 := [.cells false 2 []]) (.tup [.sl (some (H.length, 0)) 0 (some 0), .int .i64 2]) (resT Tryz.results75) [.cells false 2 []] rfl [2] (by decide) ⟨by first | (rw [hfinL, hfinE]; done) | (rw [hfinL, hfinE]; rfl) | (rw [hfinG, hfinL, hfinE]; done) | (rw [hfinG, hfinL, hfinE]; rfl), by first | (rw [hfinL]; done) | (rw [hfinL]; rfl) | (rw [hfinG, hfinL]; done) | (rw [hfinG, hfinL]; rfl)⟩ ?_)
            exact absW
          · have h5d := bsT h5
            have hlh : 0 ≤ lo ∧ lo ≤ hi ∧ hi ≤ 2048 := by omega
            have hl := hlh
            have hvv := vecB_iff.1 hv
            have hrx := rch_bd (a := x0) (b := x1) (n := vx) (d := vd) (lo := lo) (hi := hi) (by omega) (by omega) (by omega) (by omega) (by omega)
            have hry := rch_bd (a := y0) (b := y1) (n := vy) (d := vd) (lo := lo) (hi := hi) (by omega) (by omega) (by omega) (by omega) (by omega)
            have hcx := cel_bd2 (a := (rchL x0 vx vd lo hi)) (b := (rchH x1 vx vd lo hi)) (by omega)
            have hcy := cel_bd2 (a := (rchL y0 vy vd lo hi)) (b := (rchH y1 vy vd lo hi)) (by omega)
            have hm1 := mul_bd (a := lo) (b := vx) (A := 2048) (B := 67108864) (by omega) (by omega)
            have hm2 := mul_bd (a := hi) (b := vx) (A := 2048) (B := 67108864) (by omega) (by omega)
            have hm3 := mul_bd (a := lo) (b := vy) (A := 2048) (B := 67108864) (by omega) (by omega)
            have hm4 := mul_bd (a := hi) (b := vy) (A := 2048) (B := 67108864) (by omega) (by omega)
            have hf0 := fl_bd (m := lo) (n := vx) (d := vd) (by omega) (by omega) (by omega)
            have hf1 := fl_bd (m := hi) (n := vx) (d := vd) (by omega) (by omega) (by omega)
            have hf2 := fl_bd (m := lo) (n := vy) (d := vd) (by omega) (by omega) (by omega)
            have hf3 := fl_bd (m := hi) (n := vy) (d := vd) (by omega) (by omega) (by omega)
            have hsfL0 : x0 + (if ((hi * vx) / vd) < ((lo * vx) / vd) then ((hi * vx) / vd) else ((lo * vx) / vd)) = rchL x0 vx vd lo hi := by unfold rchL; rw [(fdiv_min (by omega)).1]
            have hsfH0 : x1 + (if ((lo * vx) / vd) < ((hi * vx) / vd) then ((hi * vx) / vd) else ((lo * vx) / vd)) + 1 = rchH x1 vx vd lo hi := by unfold rchH; rw [(fdiv_min (by omega)).2]
            have hwM0 : -2048 ≤ (if ((lo * vx) / vd) < ((hi * vx) / vd) then ((hi * vx) / vd) else ((lo * vx) / vd)) ∧ (if ((lo * vx) / vd) < ((hi * vx) / vd) then ((hi * vx) / vd) else ((lo * vx) / vd)) ≤ 2048 := by split <;> omega
            have hwN0 : -2048 ≤ (if ((hi * vx) / vd) < ((lo * vx) / vd) then ((hi * vx) / vd) else ((lo * vx) / vd)) ∧ (if ((hi * vx) / vd) < ((lo * vx) / vd) then ((hi * vx) / vd) else ((lo * vx) / vd)) ≤ 2048 := by split <;> omega
            have hsfL1 : y0 + (if ((hi * vy) / vd) < ((lo * vy) / vd) then ((hi * vy) / vd) else ((lo * vy) / vd)) = rchL y0 vy vd lo hi := by unfold rchL; rw [(fdiv_min (by omega)).1]
            have hsfH1 : y1 + (if ((lo * vy) / vd) < ((hi * vy) / vd) then ((hi * vy) / vd) else ((lo * vy) / vd)) + 1 = rchH y1 vy vd lo hi := by unfold rchH; rw [(fdiv_min (by omega)).2]
            have hwM1 : -2048 ≤ (if ((lo * vy) / vd) < ((hi * vy) / vd) then ((hi * vy) / vd) else ((lo * vy) / vd)) ∧ (if ((lo * vy) / vd) < ((hi * vy) / vd) then ((hi * vy) / vd) else ((lo * vy) / vd)) ≤ 2048 := by split <;> omega
            have hwN1 : -2048 ≤ (if ((hi * vy) / vd) < ((lo * vy) / vd) then ((hi * vy) / vd) else ((lo * vy) / vd)) ∧ (if ((hi * vy) / vd) < ((lo * vy) / vd) then ((hi * vy) / vd) else ((lo * vy) / vd)) ≤ 2048 := by split <;> omega
            have ha1 := arN_bd2 (a := (rchL x0 vx vd lo hi)) (b := (rchH x1 vx vd lo hi)) (by omega)
            have ha2 := arN_bd2 (a := (rchL y0 vy vd lo hi)) (b := (rchH y1 vy vd lo hi)) (by omega)
            have g'7 := (jn @h5 (jn @h5d (jn @hsfL0 (jn @hsfH0 (jn @hsfL1 (jn @hsfH1 g'5))))))
            refine runTf g'7 ?_
            refine gd_split (fun h6 => ?_) (fun h6 => ?_)
            · have h6d := bsT h6
              have g'8 := (jn @h6 (jn @h6d g'7))
              refine runTf g'8 ?_
              refine cond_split (fun h7 => ?_) (fun h7 => ?_)
              · have h7d := bsT h7
                have hz := sptE_6 hp1 hv hlh (.inr h7d)
                have hfinE := hz.1
                have hfinL := hz.2
                have g'9 := (jn @h7 (jn @h7d g'8))
                refine runTf g'9 ?_
                refine hQ _ _ (end_byG (.inl rfl) hbel (x1 := .tup [.sl none 0 (some 0), .int .i64 6]) (l2 := [.cells false 2 []]) (.tup [.sl (some (H.length, 0)) 0 (some 0), .int .i64 6]) (resT Tryz.results75) [.cells false 2 []] rfl [2] (by decide) ⟨by first | (rw [hfinL, hfinE]; done) | (rw [hfinL, hfinE]; rfl) | (rw [hfinG, hfinL, hfinE]; done) | (rw [hfinG, hfinL, hfinE]; rfl), by first | (rw [hfinL]; done) | (rw [hfinL]; rfl) | (rw [hfinG, hfinL]; done) | (rw [hfinG, hfinL]; rfl)⟩ ?_)
                exact absW
              · have h7d := bsT h7
                have hz := sptE_0 hp1 hv hlh (by omega)
                have hfinE := hz.1
                have hfinL := hz.2
                have hfinG := rsw_eq hx hy hv hlh
                have g'10 := (jn @h7 (jn @h7d g'8))
                refine runTf g'10 ?_
                refine call_d (by kernel_rfl) (bfloor_c _ (lo * vx) vd (by omega) (by omega)) ?_
                refine runTf g'10 ?_
                refine call_d (by kernel_rfl) (bfloor_c _ (hi * vx) vd (by omega) (by omega)) ?_
                refine runTf g'10 ?_
                refine call_d (by kernel_rfl) (bfloor_c _ (lo * vy) vd (by omega) (by omega)) ?_
                refine runTf g'10 ?_
                refine call_d (by kernel_rfl) (bfloor_c _ (hi * vy) vd (by omega) (by omega)) ?_
                refine runTf g'10 ?_
                refine call_v (by kernel_rfl) (r8around_c _ (rchL x0 vx vd lo hi) (rchL y0 vy vd lo hi) (rchH x1 vx vd lo hi) (rchH y1 vy vd lo hi) (by omega) (by omega) (by omega) (by omega)) ?_
                refine runTf g'10 ?_
                refine go_loopA (fun k F Hx => ∃ n : Nat, n + k = arN (rchL y0 vy vd lo hi) (rchH y1 vy vd lo hi) ∧ F = [(2, .int .i64 lo), (3, .int .i64 hi), (4, .ptr (some (H.length, 0))), (5, .ptr (some (H.length + 1, 0))), (14, .ptr (some (H.length + 2, 0))), (15, .sl (some (H.length + 3, 0)) ((gridR (swpP x0 y0 x1 y1 vx vy vd lo hi) ((rchL x0 vx vd lo hi) / 64 - 1) (arN (rchL x0 vx vd lo hi) (rchH x1 vx vd lo hi)) ((rchL y0 vy vd lo hi) / 64 - 1) n).length) (capG (gridR (swpP x0 y0 x1 y1 vx vy vd lo hi) ((rchL x0 vx vd lo hi) / 64 - 1) (arN (rchL x0 vx vd lo hi) (rchH x1 vx vd lo hi)) ((rchL y0 vy vd lo hi) / 64 - 1) n).length)), (16, .int .i64 (((rchL y0 vy vd lo hi) / 64 - 1) + ((n : Nat) : Int)))] ∧ Hx = H ++ [.cells true 0 [.int .i64 x0, .int .i64 y0, .int .i64 x1, .int .i64 y1], .cells true 0 [.int .i64 vx, .int .i64 vy, .int .i64 vd], .cells true 0 [.int .i64 ((rchL x0 vx vd lo hi) / 64 - 1), .int .i64 ((rchL y0 vy vd lo hi) / 64 - 1), .int .i64 ((rchH x1 vx vd lo hi) / 64 + 1), .int .i64 ((rchH y1 vy vd lo hi) / 64 + 1)], .cells (ownG (gridR (swpP x0 y0 x1 y1 vx vy vd lo hi) ((rchL x0 vx vd lo hi) / 64 - 1) (arN (rchL x0 vx vd lo hi) (rchH x1 vx vd lo hi)) ((rchL y0 vy vd lo hi) / 64 - 1) n).length) 2 (prs (gridR (swpP x0 y0 x1 y1 vx vy vd lo hi) ((rchL x0 vx vd lo hi) / 64 - 1) (arN (rchL x0 vx vd lo hi) (rchH x1 vx vd lo hi)) ((rchL y0 vy vd lo hi) / 64 - 1) n))]) (arN (rchL y0 vy vd lo hi) (rchH y1 vy vd lo hi)) ?_ ?_
                · refine ⟨_, _, _, ⟨0, by omega, rfl, rfl⟩, Abs.byG hbel [.cells false 2 []] rfl [0, 1, 2, 3] (by decide) ?_⟩
                  exact absRf (jn @gridR_0 (jn @Int.natCast_zero @Int.add_zero))
                · rintro k0 F Hx ⟨n, hm0, rfl, rfl⟩ Q1 hJ0 hr1 he1
                  have hQ1 := fun F H' h => hr1 F H' (hQ F H' h)
                  refine AW_seqQ fun Q2 hn2 hr2 he2 => ?_
                  have hQ2 := fun F H' h => hr2 F H' (hQ1 F H' h)
                  refine AW_fin true try_mixed (by kernel_rfl) ?_
                  have g'11 := (jn @prs_len (jn @prs_one g'10))
                  refine runTf g'11 ?_
                  refine cond_split (fun h8 => ?_) (fun h8 => ?_)
                  · have h8d := bsT h8
                    have g'12 := (jn @h8 (jn @h8d g'11))
                    refine runTf g'12 ?_
                    refine hn2 _ _ ?_
                    refine AW_seqQ fun Q3 hn3 hr3 he3 => ?_
                    have hQ3 := fun F H' h => hr3 F H' (hQ1 F H' h)
                    refine AW_blockQ fun Q4 hn4 hr4 he4 hb4 => ?_
                    have hQ4 := fun F H' h => hr4 F H' (hQ3 F H' h)
                    refine AW_seqQ fun Q5 hn5 hr5 he5 => ?_
                    have hQ5 := fun F H' h => hr5 F H' (hQ4 F H' h)
                    refine AW_fin true try_mixed (by kernel_rfl) ?_
                    refine runTf g'12 ?_
                    refine hn5 _ _ ?_
                    refine AW_blockQ fun Q6 hn6 hr6 he6 hb6 => ?_
                    have hQ6 := fun F H' h => hr6 F H' (hQ4 F H' h)
                    refine AW_loopA (fun k F Hx => ∃ m : Nat, m + k = (arN (rchL x0 vx vd lo hi) (rchH x1 vx vd lo hi)) ∧ F = [(2, .int .i64 lo), (3, .int .i64 hi), (4, .ptr (some (H.length, 0))), (5, .ptr (some (H.length + 1, 0))), (14, .ptr (some (H.length + 2, 0))), (15, .sl (some (H.length + 3, 0)) ((gridR (swpP x0 y0 x1 y1 vx vy vd lo hi) ((rchL x0 vx vd lo hi) / 64 - 1) (arN (rchL x0 vx vd lo hi) (rchH x1 vx vd lo hi)) ((rchL y0 vy vd lo hi) / 64 - 1) n ++ rowR (swpP x0 y0 x1 y1 vx vy vd lo hi) ((rchL x0 vx vd lo hi) / 64 - 1) (((rchL y0 vy vd lo hi) / 64 - 1) + ((n : Nat) : Int)) m).length) (capG (gridR (swpP x0 y0 x1 y1 vx vy vd lo hi) ((rchL x0 vx vd lo hi) / 64 - 1) (arN (rchL x0 vx vd lo hi) (rchH x1 vx vd lo hi)) ((rchL y0 vy vd lo hi) / 64 - 1) n ++ rowR (swpP x0 y0 x1 y1 vx vy vd lo hi) ((rchL x0 vx vd lo hi) / 64 - 1) (((rchL y0 vy vd lo hi) / 64 - 1) + ((n : Nat) : Int)) m).length)), (16, .int .i64 (((rchL y0 vy vd lo hi) / 64 - 1) + ((n : Nat) : Int))), (17, .int .i64 (((rchL x0 vx vd lo hi) / 64 - 1) + ((m : Nat) : Int)))] ∧ Hx = H ++ [.cells true 0 [.int .i64 x0, .int .i64 y0, .int .i64 x1, .int .i64 y1], .cells true 0 [.int .i64 vx, .int .i64 vy, .int .i64 vd], .cells true 0 [.int .i64 ((rchL x0 vx vd lo hi) / 64 - 1), .int .i64 ((rchL y0 vy vd lo hi) / 64 - 1), .int .i64 ((rchH x1 vx vd lo hi) / 64 + 1), .int .i64 ((rchH y1 vy vd lo hi) / 64 + 1)], .cells (ownG (gridR (swpP x0 y0 x1 y1 vx vy vd lo hi) ((rchL x0 vx vd lo hi) / 64 - 1) (arN (rchL x0 vx vd lo hi) (rchH x1 vx vd lo hi)) ((rchL y0 vy vd lo hi) / 64 - 1) n ++ rowR (swpP x0 y0 x1 y1 vx vy vd lo hi) ((rchL x0 vx vd lo hi) / 64 - 1) (((rchL y0 vy vd lo hi) / 64 - 1) + ((n : Nat) : Int)) m).length) 2 (prs (gridR (swpP x0 y0 x1 y1 vx vy vd lo hi) ((rchL x0 vx vd lo hi) / 64 - 1) (arN (rchL x0 vx vd lo hi) (rchH x1 vx vd lo hi)) ((rchL y0 vy vd lo hi) / 64 - 1) n ++ rowR (swpP x0 y0 x1 y1 vx vy vd lo hi) ((rchL x0 vx vd lo hi) / 64 - 1) (((rchL y0 vy vd lo hi) / 64 - 1) + ((n : Nat) : Int)) m))]) ((arN (rchL x0 vx vd lo hi) (rchH x1 vx vd lo hi))) ?_ ?_
                    · refine ⟨_, _, _, ⟨0, by omega, rfl, rfl⟩, Abs.byG hbel [] rfl [0, 1, 2, 3] (by decide) ?_⟩
                      exact absRf (jn @rowR_0 (jn @List.append_nil.{0} (jn @Int.natCast_zero @Int.add_zero)))
                    · rintro k1 F Hx ⟨m, hm1, rfl, rfl⟩ Q7 hJ1 hr7 he7
                      have hQ7 := fun F H' h => hr7 F H' (hQ6 F H' h)
                      refine AW_seqQ fun Q8 hn8 hr8 he8 => ?_
                      have hQ8 := fun F H' h => hr8 F H' (hQ7 F H' h)
                      refine AW_fin true try_mixed (by kernel_rfl) ?_
                      refine runTf g'12 ?_
                      refine cond_split (fun h9 => ?_) (fun h9 => ?_)
                      · have h9d := bsT h9
                        have hgb := grid_bd2 (p := (swpP x0 y0 x1 y1 vx vy vd lo hi)) (x0 := ((rchL x0 vx vd lo hi) / 64 - 1)) (y0 := ((rchL y0 vy vd lo hi) / 64 - 1)) (y := ((rchL y0 vy vd lo hi) / 64 - 1) + ((n : Nat) : Int)) (w := (arN (rchL x0 vx vd lo hi) (rchH x1 vx vd lo hi))) (n := n) (m := m) (by omega) (by omega) (by omega)
                        have g'13 := (jn @h9 (jn @h9d g'12))
                        refine runTf g'13 ?_
                        refine hn8 _ _ ?_
                        refine AW_seqQ fun Q9 hn9 hr9 he9 => ?_
                        have hQ9 := fun F H' h => hr9 F H' (hQ7 F H' h)
                        refine AW_blockQ fun Q10 hn10 hr10 he10 hb10 => ?_
                        have hQ10 := fun F H' h => hr10 F H' (hQ9 F H' h)
                        refine AW_seqQ fun Q11 hn11 hr11 he11 => ?_
                        have hQ11 := fun F H' h => hr11 F H' (hQ10 F H' h)
                        refine AW_fin true try_mixed (by kernel_rfl) ?_
                        refine runTf g'13 ?_
                        refine hn11 _ _ ?_
                        refine AW_special true try_mixed [[0, 1, 2, 3, 4, 5, 6, 7, 8, 9], [0, 1, 2, 7, 3, 4, 5, 6, 8, 9], [0, 2, 7, 1, 3, 4, 5, 6, 8, 9]] (by kernel_rfl) (fun F2 H2 => F2 = [(2, .int .i64 lo), (3, .int .i64 hi), (4, .ptr (some (H.length, 0))), (5, .ptr (some (H.length + 1, 0))), (14, .ptr (some (H.length + 2, 0))), (15, .sl (some (H.length + 3, 0)) ((gridR (swpP x0 y0 x1 y1 vx vy vd lo hi) ((rchL x0 vx vd lo hi) / 64 - 1) (arN (rchL x0 vx vd lo hi) (rchH x1 vx vd lo hi)) ((rchL y0 vy vd lo hi) / 64 - 1) n ++ rowR (swpP x0 y0 x1 y1 vx vy vd lo hi) ((rchL x0 vx vd lo hi) / 64 - 1) (((rchL y0 vy vd lo hi) / 64 - 1) + ((n : Nat) : Int)) m).length) (capG (gridR (swpP x0 y0 x1 y1 vx vy vd lo hi) ((rchL x0 vx vd lo hi) / 64 - 1) (arN (rchL x0 vx vd lo hi) (rchH x1 vx vd lo hi)) ((rchL y0 vy vd lo hi) / 64 - 1) n ++ rowR (swpP x0 y0 x1 y1 vx vy vd lo hi) ((rchL x0 vx vd lo hi) / 64 - 1) (((rchL y0 vy vd lo hi) / 64 - 1) + ((n : Nat) : Int)) m).length)), (16, .int .i64 (((rchL y0 vy vd lo hi) / 64 - 1) + ((n : Nat) : Int))), (17, .int .i64 (((rchL x0 vx vd lo hi) / 64 - 1) + ((m : Nat) : Int))), (18, .ptr (some (H.length + 4, 0))), (19, .ptr (some (H.length + 5, 0))), (20, .bool (mnsB ((((rchL x0 vx vd lo hi) / 64 - 1) + ((m : Nat) : Int)) * 64) ((((rchL y0 vy vd lo hi) / 64 - 1) + ((n : Nat) : Int)) * 64) ((((rchL x0 vx vd lo hi) / 64 - 1) + ((m : Nat) : Int)) * 64 + 64) ((((rchL y0 vy vd lo hi) / 64 - 1) + ((n : Nat) : Int)) * 64 + 64) x0 y0 x1 y1))] ∧ H2 = H ++ [.cells true 0 [.int .i64 x0, .int .i64 y0, .int .i64 x1, .int .i64 y1], .cells true 0 [.int .i64 vx, .int .i64 vy, .int .i64 vd], .cells true 0 [.int .i64 ((rchL x0 vx vd lo hi) / 64 - 1), .int .i64 ((rchL y0 vy vd lo hi) / 64 - 1), .int .i64 ((rchH x1 vx vd lo hi) / 64 + 1), .int .i64 ((rchH y1 vy vd lo hi) / 64 + 1)], .cells (ownG (gridR (swpP x0 y0 x1 y1 vx vy vd lo hi) ((rchL x0 vx vd lo hi) / 64 - 1) (arN (rchL x0 vx vd lo hi) (rchH x1 vx vd lo hi)) ((rchL y0 vy vd lo hi) / 64 - 1) n ++ rowR (swpP x0 y0 x1 y1 vx vy vd lo hi) ((rchL x0 vx vd lo hi) / 64 - 1) (((rchL y0 vy vd lo hi) / 64 - 1) + ((n : Nat) : Int)) m).length) 2 (prs (gridR (swpP x0 y0 x1 y1 vx vy vd lo hi) ((rchL x0 vx vd lo hi) / 64 - 1) (arN (rchL x0 vx vd lo hi) (rchH x1 vx vd lo hi)) ((rchL y0 vy vd lo hi) / 64 - 1) n ++ rowR (swpP x0 y0 x1 y1 vx vy vd lo hi) ((rchL x0 vx vd lo hi) / 64 - 1) (((rchL y0 vy vd lo hi) / 64 - 1) + ((n : Nat) : Int)) m)), .cells true 0 [.int .i64 (((rchL x0 vx vd lo hi) / 64 - 1) + ((m : Nat) : Int)), .int .i64 (((rchL y0 vy vd lo hi) / 64 - 1) + ((n : Nat) : Int))], .cells true 0 [.int .i64 (mkV (mnsB ((((rchL x0 vx vd lo hi) / 64 - 1) + ((m : Nat) : Int)) * 64) ((((rchL y0 vy vd lo hi) / 64 - 1) + ((n : Nat) : Int)) * 64) ((((rchL x0 vx vd lo hi) / 64 - 1) + ((m : Nat) : Int)) * 64 + 64) ((((rchL y0 vy vd lo hi) / 64 - 1) + ((n : Nat) : Int)) * 64 + 64) x0 y0 x1 y1) (((((rchL x0 vx vd lo hi) / 64 - 1) + ((m : Nat) : Int)) * 64) - x1)), .int .i64 (mkV (mnsB ((((rchL x0 vx vd lo hi) / 64 - 1) + ((m : Nat) : Int)) * 64) ((((rchL y0 vy vd lo hi) / 64 - 1) + ((n : Nat) : Int)) * 64) ((((rchL x0 vx vd lo hi) / 64 - 1) + ((m : Nat) : Int)) * 64 + 64) ((((rchL y0 vy vd lo hi) / 64 - 1) + ((n : Nat) : Int)) * 64 + 64) x0 y0 x1 y1) (((((rchL y0 vy vd lo hi) / 64 - 1) + ((n : Nat) : Int)) * 64) - y1)), .int .i64 (mkV (mnsB ((((rchL x0 vx vd lo hi) / 64 - 1) + ((m : Nat) : Int)) * 64) ((((rchL y0 vy vd lo hi) / 64 - 1) + ((n : Nat) : Int)) * 64) ((((rchL x0 vx vd lo hi) / 64 - 1) + ((m : Nat) : Int)) * 64 + 64) ((((rchL y0 vy vd lo hi) / 64 - 1) + ((n : Nat) : Int)) * 64 + 64) x0 y0 x1 y1) (((((rchL x0 vx vd lo hi) / 64 - 1) + ((m : Nat) : Int)) * 64 + 64) - x0)), .int .i64 (mkV (mnsB ((((rchL x0 vx vd lo hi) / 64 - 1) + ((m : Nat) : Int)) * 64) ((((rchL y0 vy vd lo hi) / 64 - 1) + ((n : Nat) : Int)) * 64) ((((rchL x0 vx vd lo hi) / 64 - 1) + ((m : Nat) : Int)) * 64 + 64) ((((rchL y0 vy vd lo hi) / 64 - 1) + ((n : Nat) : Int)) * 64 + 64) x0 y0 x1 y1) (((((rchL y0 vy vd lo hi) / 64 - 1) + ((n : Nat) : Int)) * 64 + 64) - y0))]]) ?_ ?_
                        · refine reps_cons ?_ (reps_cons ?_ (reps_cons ?_ (reps_nil))) <;> intro J hJ
                          · skip
                            refine runDf g'13 ?_
                            refine call_d (by kernel_rfl) (bsquare_c _ (((rchL x0 vx vd lo hi) / 64 - 1) + ((m : Nat) : Int)) (((rchL y0 vy vd lo hi) / 64 - 1) + ((n : Nat) : Int)) (by omega) (by omega)) ?_
                            refine runDf g'13 ?_
                            refine call_d (by kernel_rfl) (rminus_c _ ((((rchL x0 vx vd lo hi) / 64 - 1) + ((m : Nat) : Int)) * 64) ((((rchL y0 vy vd lo hi) / 64 - 1) + ((n : Nat) : Int)) * 64) ((((rchL x0 vx vd lo hi) / 64 - 1) + ((m : Nat) : Int)) * 64 + 64) ((((rchL y0 vy vd lo hi) / 64 - 1) + ((n : Nat) : Int)) * 64 + 64) x0 y0 x1 y1 (by omega) (by omega) (by omega) (by omega) (by omega) (by omega) (by omega) (by omega)) ?_
                            refine runDf g'13 ?_
                            refine inv_of (hJ _ _ ⟨_, _, _, ⟨rfl, rfl⟩, Abs.byG hbel [] rfl [0, 1, 2, 3, 4, 5] (by decide) ?_⟩)
                            exact absR
                          · skip
                            refine runDf g'13 ?_
                            refine call_d (by kernel_rfl) (bsquare_c _ (((rchL x0 vx vd lo hi) / 64 - 1) + ((m : Nat) : Int)) (((rchL y0 vy vd lo hi) / 64 - 1) + ((n : Nat) : Int)) (by omega) (by omega)) ?_
                            refine runDf g'13 ?_
                            refine call_d (by kernel_rfl) (rminus_c _ ((((rchL x0 vx vd lo hi) / 64 - 1) + ((m : Nat) : Int)) * 64) ((((rchL y0 vy vd lo hi) / 64 - 1) + ((n : Nat) : Int)) * 64) ((((rchL x0 vx vd lo hi) / 64 - 1) + ((m : Nat) : Int)) * 64 + 64) ((((rchL y0 vy vd lo hi) / 64 - 1) + ((n : Nat) : Int)) * 64 + 64) x0 y0 x1 y1 (by omega) (by omega) (by omega) (by omega) (by omega) (by omega) (by omega) (by omega)) ?_
                            refine runDf g'13 ?_
                            refine inv_of (hJ _ _ ⟨_, _, _, ⟨rfl, rfl⟩, Abs.byG hbel [] rfl [0, 1, 2, 3, 4, 5] (by decide) ?_⟩)
                            exact absR
                          · skip
                            refine runDf g'13 ?_
                            refine call_d (by kernel_rfl) (bsquare_c _ (((rchL x0 vx vd lo hi) / 64 - 1) + ((m : Nat) : Int)) (((rchL y0 vy vd lo hi) / 64 - 1) + ((n : Nat) : Int)) (by omega) (by omega)) ?_
                            refine runDf g'13 ?_
                            refine call_d (by kernel_rfl) (rminus_c _ ((((rchL x0 vx vd lo hi) / 64 - 1) + ((m : Nat) : Int)) * 64) ((((rchL y0 vy vd lo hi) / 64 - 1) + ((n : Nat) : Int)) * 64) ((((rchL x0 vx vd lo hi) / 64 - 1) + ((m : Nat) : Int)) * 64 + 64) ((((rchL y0 vy vd lo hi) / 64 - 1) + ((n : Nat) : Int)) * 64 + 64) x0 y0 x1 y1 (by omega) (by omega) (by omega) (by omega) (by omega) (by omega) (by omega) (by omega)) ?_
                            refine runDf g'13 ?_
                            refine inv_of (hJ _ _ ⟨_, _, _, ⟨rfl, rfl⟩, Abs.byG hbel [] rfl [0, 1, 2, 3, 4, 5] (by decide) ?_⟩)
                            exact absR
                        rintro F2 H2 ⟨rfl, rfl⟩
                        refine AW_fin true try_mixed (by kernel_rfl) ?_
                        refine runTf g'13 ?_
                        refine gd_split (fun h10 => ?_) (fun h10 => ?_)
                        · have h10d := bsT h10
                          have hmn := h10d
                          have g'14 := (jn @h10 (jn @h10d g'13))
                          refine runTf g'14 ?_
                          refine call_v (by kernel_rfl) (rmeets_c _ 0 0 vx vy vd lo hi (mkV true (((((rchL x0 vx vd lo hi) / 64 - 1) + ((m : Nat) : Int)) * 64) - x1)) (mkV true (((((rchL y0 vy vd lo hi) / 64 - 1) + ((n : Nat) : Int)) * 64) - y1)) (mkV true (((((rchL x0 vx vd lo hi) / 64 - 1) + ((m : Nat) : Int)) * 64 + 64) - x0)) (mkV true (((((rchL y0 vy vd lo hi) / 64 - 1) + ((n : Nat) : Int)) * 64 + 64) - y0))) ?_
                          refine runTf g'14 ?_
                          refine cond_split (fun h11 => ?_) (fun h11 => ?_)
                          · have h11d := bsT h11
                            have hov : swpP x0 y0 x1 y1 vx vy vd lo hi (((rchL x0 vx vd lo hi) / 64 - 1) + ((m : Nat) : Int)) (((rchL y0 vy vd lo hi) / 64 - 1) + ((n : Nat) : Int)) = true := by have q := h11d; unfold swpP; rw [hmn]; exact q
                            have g'15 := (jn @h11 (jn @h11d (jn @capG_s g'14)))
                            refine runTf g'15 ?_
                            refine hn10 _ _ ?_
                            refine hn9 _ _ ?_
                            refine AW_fin true try_mixed (by kernel_rfl) ?_
                            refine runTf g'15 ?_
                            refine hJ1 _ _ ⟨k1 - 1, by omega, _, _, _, ⟨m + 1, by omega, rfl, rfl⟩, Abs.byG hbel [] rfl [0, 1, 2, 7] (by decide) ?_⟩
                            exact absRf (jn @rowR.eq_2 (jn @hov (jn @if_true.{1} (jn @if_false.{1} (jn @Bool.false_eq_true (jn @List.append_nil.{0} (jn @List.append_assoc.{0} (jn @Int.natCast_add (jn @Int.natCast_one @Int.add_assoc)))))))))
                          · have h11d := bsT h11
                            have hov : swpP x0 y0 x1 y1 vx vy vd lo hi (((rchL x0 vx vd lo hi) / 64 - 1) + ((m : Nat) : Int)) (((rchL y0 vy vd lo hi) / 64 - 1) + ((n : Nat) : Int)) = false := by have q := h11d; unfold swpP; rw [hmn]; exact q
                            have g'16 := (jn @h11 (jn @h11d g'14))
                            refine runTf g'16 ?_
                            refine hn10 _ _ ?_
                            refine hn9 _ _ ?_
                            refine AW_fin true try_mixed (by kernel_rfl) ?_
                            refine runTf g'16 ?_
                            refine hJ1 _ _ ⟨k1 - 1, by omega, _, _, _, ⟨m + 1, by omega, rfl, rfl⟩, Abs.byG hbel [] rfl [0, 1, 2, 3] (by decide) ?_⟩
                            exact absRf (jn @rowR.eq_2 (jn @hov (jn @if_true.{1} (jn @if_false.{1} (jn @Bool.false_eq_true (jn @List.append_nil.{0} (jn @List.append_assoc.{0} (jn @Int.natCast_add (jn @Int.natCast_one @Int.add_assoc)))))))))
                        · have h10d := bsT h10
                          have hov : swpP x0 y0 x1 y1 vx vy vd lo hi (((rchL x0 vx vd lo hi) / 64 - 1) + ((m : Nat) : Int)) (((rchL y0 vy vd lo hi) / 64 - 1) + ((n : Nat) : Int)) = false := by unfold swpP; rw [h10d]; rfl
                          have g'17 := (jn @h10 (jn @h10d g'13))
                          refine runTf g'17 ?_
                          refine hn10 _ _ ?_
                          refine hn9 _ _ ?_
                          refine AW_fin true try_mixed (by kernel_rfl) ?_
                          refine runTf g'17 ?_
                          refine hJ1 _ _ ⟨k1 - 1, by omega, _, _, _, ⟨m + 1, by omega, rfl, rfl⟩, Abs.byG hbel [] rfl [0, 1, 2, 3] (by decide) ?_⟩
                          exact absRf (jn @rowR.eq_2 (jn @hov (jn @if_true.{1} (jn @if_false.{1} (jn @Bool.false_eq_true (jn @List.append_nil.{0} (jn @List.append_assoc.{0} (jn @Int.natCast_add (jn @Int.natCast_one @Int.add_assoc)))))))))
                      · have h9d := bsT h9
                        obtain rfl : m = (arN (rchL x0 vx vd lo hi) (rchH x1 vx vd lo hi)) := by omega
                        have g'18 := (jn @h9 (jn @h9d g'12))
                        refine runTf g'18 ?_
                        refine he8 _ _ _ ?_
                        refine he7 _ _ _ ?_
                        refine hb6 _ _ ?_
                        refine hn4 _ _ ?_
                        refine hn3 _ _ ?_
                        refine AW_fin true try_mixed (by kernel_rfl) ?_
                        refine runTf g'18 ?_
                        refine hJ0 _ _ ⟨k0 - 1, by omega, _, _, _, ⟨n + 1, by omega, rfl, rfl⟩, Abs.byG hbel [] rfl [0, 1, 2, 3] (by decide) ?_⟩
                        exact absRf (jn @gridR_s (jn @Int.natCast_add (jn @Int.natCast_one @Int.add_assoc)))
                  · have h8d := bsT h8
                    obtain rfl : n = arN (rchL y0 vy vd lo hi) (rchH y1 vy vd lo hi) := by omega
                    have g'19 := (jn @h8 (jn @h8d g'11))
                    refine runTf g'19 ?_
                    refine he2 _ _ _ ?_
                    refine he1 _ _ _ ?_
                    refine runTf g'19 ?_
                    refine hQ _ _ (end_byG (.inl rfl) hbel (x1 := .tup [.sl (some (H.length + 3, 0)) ((gridR (swpP x0 y0 x1 y1 vx vy vd lo hi) ((rchL x0 vx vd lo hi) / 64 - 1) (arN (rchL x0 vx vd lo hi) (rchH x1 vx vd lo hi)) ((rchL y0 vy vd lo hi) / 64 - 1) (arN (rchL y0 vy vd lo hi) (rchH y1 vy vd lo hi))).length) (capG (gridR (swpP x0 y0 x1 y1 vx vy vd lo hi) ((rchL x0 vx vd lo hi) / 64 - 1) (arN (rchL x0 vx vd lo hi) (rchH x1 vx vd lo hi)) ((rchL y0 vy vd lo hi) / 64 - 1) (arN (rchL y0 vy vd lo hi) (rchH y1 vy vd lo hi))).length), .int .i64 0]) (l2 := [.cells (ownG (gridR (swpP x0 y0 x1 y1 vx vy vd lo hi) ((rchL x0 vx vd lo hi) / 64 - 1) (arN (rchL x0 vx vd lo hi) (rchH x1 vx vd lo hi)) ((rchL y0 vy vd lo hi) / 64 - 1) (arN (rchL y0 vy vd lo hi) (rchH y1 vy vd lo hi))).length) 2 (prs (gridR (swpP x0 y0 x1 y1 vx vy vd lo hi) ((rchL x0 vx vd lo hi) / 64 - 1) (arN (rchL x0 vx vd lo hi) (rchH x1 vx vd lo hi)) ((rchL y0 vy vd lo hi) / 64 - 1) (arN (rchL y0 vy vd lo hi) (rchH y1 vy vd lo hi))))]) (.tup [.sl (some (H.length, 0)) ((gridR (swpP x0 y0 x1 y1 vx vy vd lo hi) ((rchL x0 vx vd lo hi) / 64 - 1) (arN (rchL x0 vx vd lo hi) (rchH x1 vx vd lo hi)) ((rchL y0 vy vd lo hi) / 64 - 1) (arN (rchL y0 vy vd lo hi) (rchH y1 vy vd lo hi))).length) (capG (gridR (swpP x0 y0 x1 y1 vx vy vd lo hi) ((rchL x0 vx vd lo hi) / 64 - 1) (arN (rchL x0 vx vd lo hi) (rchH x1 vx vd lo hi)) ((rchL y0 vy vd lo hi) / 64 - 1) (arN (rchL y0 vy vd lo hi) (rchH y1 vy vd lo hi))).length), .int .i64 0]) (resT Tryz.results75) [] rfl [3] (by decide) ⟨by first | (rw [hfinL, hfinE]; done) | (rw [hfinL, hfinE]; rfl) | (rw [hfinG, hfinL, hfinE]; done) | (rw [hfinG, hfinL, hfinE]; rfl), by first | (rw [hfinL]; done) | (rw [hfinL]; rfl) | (rw [hfinG, hfinL]; done) | (rw [hfinG, hfinL]; rfl)⟩ ?_)
                    exact absW
            · have h6d := bsT h6
              have hz := sptE_6 hp1 hv hlh (.inl h6d)
              have hfinE := hz.1
              have hfinL := hz.2
              have g'20 := (jn @h6 (jn @h6d g'7))
              refine runTf g'20 ?_
              refine hQ _ _ (end_byG (.inl rfl) hbel (x1 := .tup [.sl none 0 (some 0), .int .i64 6]) (l2 := [.cells false 2 []]) (.tup [.sl (some (H.length, 0)) 0 (some 0), .int .i64 6]) (resT Tryz.results75) [.cells false 2 []] rfl [2] (by decide) ⟨by first | (rw [hfinL, hfinE]; done) | (rw [hfinL, hfinE]; rfl) | (rw [hfinG, hfinL, hfinE]; done) | (rw [hfinG, hfinL, hfinE]; rfl), by first | (rw [hfinL]; done) | (rw [hfinL]; rfl) | (rw [hfinG, hfinL]; done) | (rw [hfinG, hfinL]; rfl)⟩ ?_)
              exact absW
        · have h4d := bsT h4
          have hz := sptE_2 (lo := lo) (hi := hi) hp1 hv (by omega)
          have hfinE := hz.1
          have hfinL := hz.2
          have g'21 := (jn @h4 (jn @h4d g'4))
          refine runTf g'21 ?_
          refine hQ _ _ (end_byG (.inl rfl) hbel (x1 := .tup [.sl none 0 (some 0), .int .i64 2]) (l2 := [.cells false 2 []]) (.tup [.sl (some (H.length, 0)) 0 (some 0), .int .i64 2]) (resT Tryz.results75) [.cells false 2 []] rfl [2] (by decide) ⟨by first | (rw [hfinL, hfinE]; done) | (rw [hfinL, hfinE]; rfl) | (rw [hfinG, hfinL, hfinE]; done) | (rw [hfinG, hfinL, hfinE]; rfl), by first | (rw [hfinL]; done) | (rw [hfinL]; rfl) | (rw [hfinG, hfinL]; done) | (rw [hfinG, hfinL]; rfl)⟩ ?_)
          exact absW
      · have h3d := bsT h3
        have hz := sptE_2 (lo := lo) (hi := hi) hp1 hv (by omega)
        have hfinE := hz.1
        have hfinL := hz.2
        have g'22 := (jn @h3 (jn @h3d g'3))
        refine runTf g'22 ?_
        refine hQ _ _ (end_byG (.inl rfl) hbel (x1 := .tup [.sl none 0 (some 0), .int .i64 2]) (l2 := [.cells false 2 []]) (.tup [.sl (some (H.length, 0)) 0 (some 0), .int .i64 2]) (resT Tryz.results75) [.cells false 2 []] rfl [2] (by decide) ⟨by first | (rw [hfinL, hfinE]; done) | (rw [hfinL, hfinE]; rfl) | (rw [hfinG, hfinL, hfinE]; done) | (rw [hfinG, hfinL, hfinE]; rfl), by first | (rw [hfinL]; done) | (rw [hfinL]; rfl) | (rw [hfinG, hfinL]; done) | (rw [hfinG, hfinL]; rfl)⟩ ?_)
        exact absW
  · have h1d := bsT h1
    have hz := sptE_1 (x0 := x0) (y0 := y0) (x1 := x1) (y1 := y1) (vx := vx) (vy := vy) (vd := vd) (lo := lo) (hi := hi) (fun hh => by rw [← rgtB_eq, h1d] at hh; exact absurd hh.1 (by decide))
    have hfinE := hz.1
    have hfinL := hz.2
    have g'23 := (jn @h1 @h1d)
    refine runTf g'23 ?_
    refine hQ _ _ (end_byG (.inl rfl) hbel (x1 := .tup [.sl none 0 (some 0), .int .i64 1]) (l2 := [.cells false 2 []]) (.tup [.sl (some (H.length, 0)) 0 (some 0), .int .i64 1]) (resT Tryz.results75) [.cells false 2 []] rfl [2] (by decide) ⟨by first | (rw [hfinL, hfinE]; done) | (rw [hfinL, hfinE]; rfl) | (rw [hfinG, hfinL, hfinE]; done) | (rw [hfinG, hfinL, hfinE]; rfl), by first | (rw [hfinL]; done) | (rw [hfinL]; rfl) | (rw [hfinG, hfinL]; done) | (rw [hfinG, hfinL]; rfl)⟩ ?_)
    exact absW
open Go.RowKit
theorem rsweptJ_c (H : AHeap) (l : List T6) (m r g : Int) (i j : Nat) : ACalls Tryz.prog 75 [.agg [.int .i64 (g61 l i), .int .i64 (g62 l i), .int .i64 (g63 l i), .int .i64 (g64 l i)], .agg [.int .i64 (beamV (g65 l i + ((j : Nat) : Int)) m).1, .int .i64 (beamV (g65 l i + ((j : Nat) : Int)) m).2.1, .int .i64 (beamV (g65 l i + ((j : Nat) : Int)) m).2.2], .int .i64 (if 0 < r - g then r - g else 0), .int .i64 (r + g)] H (fun v H' => v = .tup [.sl (some (H.length, 0)) (spJ (g6 l i) m r g j).length (capG (spJ (g6 l i) m r g j).length), .int .i64 (sptE (g61 l i) (g62 l i) (g63 l i) (g64 l i) (beamV (g65 l i + ((j : Nat) : Int)) m).1 (beamV (g65 l i + ((j : Nat) : Int)) m).2.1 (beamV (g65 l i + ((j : Nat) : Int)) m).2.2 (if 0 < r - g then r - g else 0) (r + g))] ∧ H' = H ++ [.cells (ownG (spJ (g6 l i) m r g j).length) 2 (prs (spJ (g6 l i) m r g j))]) := rswept_c H _ _ _ _ _ _ _ _ _
theorem rSuspects_c (H : AHeap) (W : Int) (Hh : Int) (pp : AV) (xs : List Int) (s : AV) (l : List T6) (m : Int) (r : Int) (g : Int) (hpp : Sl H 1 pp xs.length (ints .u8 xs)) (hs : Sl H 6 s l.length (r6 l)) (hl : l.length ≤ 1000000000) : ACalls Tryz.prog 24 [.agg [.int .i64 W, .int .i64 Hh, pp], s, .agg [.int .i64 m, .int .i64 r], .int .i64 g] H (fun v H' => v = .tup [.sl (some (H.length, 0)) ((ssL W Hh xs l m r g).length) (capG (ssL W Hh xs l m r g).length), .int .i64 (ssE W Hh xs l m r g)] ∧ H' = H ++ [.cells (ownG (ssL W Hh xs l m r g).length) 2 (prs (ssL W Hh xs l m r g))]) := by
  obtain ⟨bpp, opp, cpp, rfl, hbpp⟩ := hpp
  have hblpp := getElem?_lt hbpp
  have hb0pp := fun l => get_app (l := l) hbpp
  obtain ⟨bs, os, cs, rfl, hbs⟩ := hs
  have hbls := getElem?_lt hbs
  have hb0s := fun l => get_app (l := l) hbs
  refine AcT false Tryz.func24 ?_; intro hbel Q hQ
  have g'1 := (jn @hbpp (jn @hb0pp (jn @hbs @hb0s)))
  refine runTf g'1 ?_
  refine call_v (by kernel_rfl) (rvalid_k _ W Hh _ xs _ l _ [(m, r)] g ⟨_, _, _, rfl, by first | exact hb0pp _ | exact hbpp⟩ ⟨_, _, _, rfl, by first | exact hb0s _ | exact hbs⟩ ⟨_, _, _, by first | rfl | (rw [List.length_append]; done) | (rw [List.length_append]; rfl), by first | rfl | (rw [get_newk]; rfl) | (rw [get_new0]; rfl) | (rw [get_newk, prs_append]; rfl) | (rw [get_new0, prs_append]; rfl)⟩ (by first | omega | simp) (by first | omega | simp)) ?_
  refine runTf g'1 ?_
  refine cond_split (fun h1 => ?_) (fun h1 => ?_)
  · have h1d := bsT h1
    have hfinP := ss_f h1d
    have g'2 := (jn @h1 (jn @h1d g'1))
    refine runTf g'2 ?_
    refine hQ _ _ (end_byG (.inl rfl) hbel (x1 := .tup [.sl none 0 (some 0), .int .i64 1]) (l2 := [.cells false 2 []]) (.tup [.sl (some (H.length, 0)) 0 (some 0), .int .i64 1]) (resT Tryz.results24) [.cells false 2 []] rfl [3] (by decide) ⟨by first | (rw [hfinP.1, hfinP.2.1, ← hfinS]; done) | (rw [hfinP.1, hfinP.2.1, hfinN.1]; rfl) | (rw [hfinP.1, hfinP.2.1]; rfl) | skip, by first | (rw [hfinP.2.1, ← hfinS]; done) | (rw [hfinP.2.1, hfinN.1]; rfl) | (rw [hfinP.2.1]; rfl) | skip⟩ ?_)
    exact absW
  · have h1d := bsT h1
    have hR := h1d
    obtain ⟨hV, hl0, hS, hsB, hg⟩ := rgtA_iff.1 hR
    have hbr := beaB_iff.1 ((scnB_iff.1 hsB).2 (m, r) (List.mem_singleton.2 rfl))
    have hlb := setB_len hS
    have hfinP := ss_t hR
    have g'3 := (jn @h1 (jn @h1d g'1))
    refine runTf g'3 ?_
    refine gd_split (fun h2 => ?_) (fun h2 => ?_)
    · have h2d := bsT h2
      have g'4 := (jn @h2 (jn @h2d g'3))
      refine runTf g'4 ?_
      refine call_v (by kernel_rfl) (rsmall_c _ _ l ⟨_, _, _, rfl, by first | exact hb0s _ | exact hbs⟩ (by assumption)) ?_
      refine runTf g'4 ?_
      refine cond_split (fun h3 => ?_) (fun h3 => ?_)
      · have h3d := bsT h3
        have hfinN := susL_nil (l := l) (m := m) (r := r) (g := g) (.inr h3d)
        have g'5 := (jn @h3 (jn @h3d g'4))
        refine runTf g'5 ?_
        refine hQ _ _ (end_byG (.inl rfl) hbel (x1 := .tup [.sl none 0 (some 0), .int .i64 0]) (l2 := [.cells false 2 []]) (.tup [.sl (some (H.length, 0)) 0 (some 0), .int .i64 0]) (resT Tryz.results24) [.cells false 2 []] rfl [3] (by decide) ⟨by first | (rw [hfinP.1, hfinP.2.1, ← hfinS]; done) | (rw [hfinP.1, hfinP.2.1, hfinN.1]; rfl) | (rw [hfinP.1, hfinP.2.1]; rfl) | skip, by first | (rw [hfinP.2.1, ← hfinS]; done) | (rw [hfinP.2.1, hfinN.1]; rfl) | (rw [hfinP.2.1]; rfl) | skip⟩ ?_)
        exact absW
      · have h3d := bsT h3
        have htau := h3d
        have hr1 : ¬ r = -1 := by omega
        have g'6 := (jn @h3 (jn @h3d g'4))
        refine runTf g'6 ?_
        refine go_loop try_mixed (by kernel_rfl) (fun k F Hx => ∃ i : Nat, i + k = l.length ∧ F = [(1, .sl (some (bs, 0)) l.length cs), (3, .int .i64 g), (6, .ptr (some (H.length, 0))), (10, .sl (some (H.length + 1, 0)) ((foP (rsI l m r g i)).length) (capG (foP (rsI l m r g i)).length)), (11, .int .i64 ((i : Nat) : Int))] ∧ Hx = H ++ [.cells true 0 [.int .i64 m, .int .i64 r], .cells (ownG (foP (rsI l m r g i)).length) 2 (prs (foP (rsI l m r g i)))]) (l.length) ?_ ?_
        · refine ⟨_, _, _, ⟨0, by omega, rfl, rfl⟩, Abs.byG hbel [.cells false 2 []] rfl [1, 3] (by decide) ?_⟩
          exact absRf @rsI.eq_1
        · rintro k0 F Hx ⟨i, hm0, rfl, rfl⟩ J0 hJ0
          have g'7 := (jn @prs_len (jn @prs_one g'6))
          refine runTf g'7 ?_
          refine cond_split (fun h4 => ?_) (fun h4 => ?_)
          · have h4d := bsT h4
            have hlt : i < l.length := by omega
            have hml := mkB_len hS hlt
            have hbb := bxB_iff.1 ((setB_iff.1 hS).2 _ (g6_mem hlt))
            have hbc : (-1048576 ≤ g61 l i ∧ g61 l i ≤ g63 l i ∧ g63 l i ≤ 1048576) ∧ (-1048576 ≤ g62 l i ∧ g62 l i ≤ g64 l i ∧ g64 l i ≤ 1048576) := ⟨hbb.1, hbb.2.1⟩
            have hbd : (0 ≤ g65 l i ∧ g65 l i ≤ 255) ∧ (1 ≤ g66 l i ∧ g66 l i ≤ 256) := by
              have q1 : 0 ≤ g65 l i ∧ g65 l i < 256 := (arcB_iff.1 hbb.2.2).1
              have q2 : 1 ≤ g66 l i ∧ g66 l i ≤ 256 := (arcB_iff.1 hbb.2.2).2.1
              omega
            have q5 := r6_at0 (l := l) (j := i) (by omega)
            have q6 := r6_at1 (l := l) (j := i) (by omega)
            have q7 := r6_at2 (l := l) (j := i) (by omega)
            have q8 := r6_at3 (l := l) (j := i) (by omega)
            have g'8 := (jn @h4 (jn @h4d (jn @r6_len (jn @q5 (jn @q6 (jn @q7 (jn @q8 g'7)))))))
            refine runTf g'8 ?_
            refine go_loop try_mixed (by kernel_rfl) (fun k F Hx => ∃ j : Nat, j + k = (mkB (g6 l i)).length ∧ F = [(1, .sl (some (bs, 0)) l.length cs), (3, .int .i64 g), (6, .ptr (some (H.length, 0))), (10, .sl (some (H.length + 2, 0)) ((foP (rsI l m r g i ++ rsJ (g6 l i) m r g j)).length) (capG (foP (rsI l m r g i ++ rsJ (g6 l i) m r g j)).length)), (11, .int .i64 ((i : Nat) : Int)), (12, .ptr (some (H.length + 1, 0))), (13, .int .i64 ((j : Nat) : Int))] ∧ Hx = H ++ [.cells true 0 [.int .i64 m, .int .i64 r], .cells true 0 [.int .i64 (g61 l i), .int .i64 (g62 l i), .int .i64 (g63 l i), .int .i64 (g64 l i)], .cells (ownG (foP (rsI l m r g i ++ rsJ (g6 l i) m r g j)).length) 2 (prs (foP (rsI l m r g i ++ rsJ (g6 l i) m r g j)))]) ((mkB (g6 l i)).length) ?_ ?_
            · refine ⟨_, _, _, ⟨0, by omega, rfl, rfl⟩, Abs.byG hbel [] rfl [0, 2, 1] (by decide) ?_⟩
              exact absRf (jn @rsJ.eq_1 @List.append_nil.{0})
            · rintro k1 F Hx ⟨j, hm1, rfl, rfl⟩ J1 hJ1
              have q9 := r6_at5 (l := l) (j := i) (by omega)
              have g'9 := (jn @q9 g'8)
              refine runTf g'9 ?_
              refine cond_split (fun h10 => ?_) (fun h10 => ?_)
              · have h10d := bsT h10
                have hjt : j < (mkB (g6 l i)).length := by omega
                have hsx : rsI l m r g i ++ rsJ (g6 l i) m r g (j + 1) = rsI l m r g i ++ (rsJ (g6 l i) m r g j ++ spJ (g6 l i) m r g j) := by rw [rsJ]
                have hli := rsI_len hS m r g i (by omega)
                have hlj := rsJ_len (g6 l i) m r g j
                have hls := spJ_len (g6 l i) m r g j
                have q11 := r6_at4 (l := l) (j := i) (by omega)
                have g'10 := (jn @h10 (jn @h10d (jn @q11 g'9)))
                refine runTf g'10 ?_
                refine call_d (by kernel_rfl) (rbeam_c _ ((g65 l i) + ((j : Nat) : Int)) m) ?_
                refine runTf g'10 ?_
                refine call_x (by kernel_rfl) (by simp) (rsweptJ_c _ l m r g i j) ?_
                refine runTf g'10 ?_
                refine go_loop try_mixed (by kernel_rfl) (fun k F Hx => ∃ n : Nat, n + k = (spJ (g6 l i) m r g j).length ∧ F = [(1, .sl (some (bs, 0)) l.length cs), (3, .int .i64 g), (6, .ptr (some (H.length, 0))), (10, .sl (some (H.length + 3, 0)) ((foP (rsI l m r g i ++ (rsJ (g6 l i) m r g j ++ (spJ (g6 l i) m r g j).take n))).length) (capG (foP (rsI l m r g i ++ (rsJ (g6 l i) m r g j ++ (spJ (g6 l i) m r g j).take n))).length)), (11, .int .i64 ((i : Nat) : Int)), (12, .ptr (some (H.length + 1, 0))), (13, .int .i64 ((j : Nat) : Int)), (14, .sl (some (H.length + 2, 0)) ((spJ (g6 l i) m r g j).length) (capG (spJ (g6 l i) m r g j).length)), (16, .int .i64 ((n : Nat) : Int))] ∧ Hx = H ++ [.cells true 0 [.int .i64 m, .int .i64 r], .cells true 0 [.int .i64 (g61 l i), .int .i64 (g62 l i), .int .i64 (g63 l i), .int .i64 (g64 l i)], .cells (ownG (spJ (g6 l i) m r g j).length) 2 (prs (spJ (g6 l i) m r g j)), .cells (ownG (foP (rsI l m r g i ++ (rsJ (g6 l i) m r g j ++ (spJ (g6 l i) m r g j).take n))).length) 2 (prs (foP (rsI l m r g i ++ (rsJ (g6 l i) m r g j ++ (spJ (g6 l i) m r g j).take n))))]) ((spJ (g6 l i) m r g j).length) ?_ ?_
                · refine ⟨_, _, _, ⟨0, by omega, rfl, rfl⟩, Abs.byG hbel [] rfl [0, 1, 3, 2] (by decide) ?_⟩
                  exact absRf (jn @List.take_zero.{0} @List.append_nil.{0})
                · rintro k2 F Hx ⟨n, hm2, rfl, rfl⟩ J2 hJ2
                  refine runTf g'10 ?_
                  refine cond_split (fun h12 => ?_) (fun h12 => ?_)
                  · have h12d := bsT h12
                    have hnt : n < (spJ (g6 l i) m r g j).length := by omega
                    have hst : foP (rsI l m r g i ++ (rsJ (g6 l i) m r g j ++ (spJ (g6 l i) m r g j).take (n + 1))) = putK (g1 (spJ (g6 l i) m r g j) n, g2 (spJ (g6 l i) m r g j) n) (foP (rsI l m r g i ++ (rsJ (g6 l i) m r g j ++ (spJ (g6 l i) m r g j).take n))) := by rw [List.take_succ_eq_append_getElem hnt, ← List.append_assoc, ← List.append_assoc, foP_s, List.append_assoc, pr_eq hnt]
                    have hfl := foP_len (rsI l m r g i ++ (rsJ (g6 l i) m r g j ++ (spJ (g6 l i) m r g j).take n))
                    rw [List.length_append, List.length_append, List.length_take] at hfl
                    have q13 := prs_load (l := spJ (g6 l i) m r g j) (j := n) (by omega)
                    have g'11 := (jn @h12 (jn @h12d (jn @q13 g'10)))
                    refine runTf g'11 ?_
                    rcases Bool.eq_false_or_eq_true (inL (foP (rsI l m r g i ++ (rsJ (g6 l i) m r g j ++ (spJ (g6 l i) m r g j).take n))) (g1 (spJ (g6 l i) m r g j) n) (g2 (spJ (g6 l i) m r g j) n)) with h14 | h14
                    · have h14d := h14
                      rw [putK_same (foP_strict _) (of_decide_eq_true h14d)] at hst
                      have hso := hnt
                      have hsc := hnt
                      refine call_v (by kernel_rfl) (putT_c _ _ (foP (rsI l m r g i ++ (rsJ (g6 l i) m r g j ++ (spJ (g6 l i) m r g j).take n))) (g1 (spJ (g6 l i) m r g j) n) (g2 (spJ (g6 l i) m r g j) n) ⟨_, _, _, by first | rfl | (rw [List.length_append]; done) | (rw [List.length_append]; rfl), by first | rfl | (rw [get_newk]; rfl) | (rw [get_new0]; rfl) | (rw [get_newk, prs_append]; rfl) | (rw [get_new0, prs_append]; rfl)⟩ (by omega) (foP_strict _) (of_decide_eq_true (by assumption))) ?_
                      have g'12 := (jn @h14 (jn @h14d g'11))
                      refine runTf g'12 ?_
                      refine hJ2 _ _ ⟨k2 - 1, by omega, _, _, _, ⟨n + 1, by omega, rfl, rfl⟩, Abs.byG hbel [] rfl [0, 1, 2, 3] (by decide) ?_⟩
                      exact absRf (jn @hst (jn @hso @hsc))
                    · have h14d := h14
                      have hso : ownG (putK (g1 (spJ (g6 l i) m r g j) n, g2 (spJ (g6 l i) m r g j) n) (foP (rsI l m r g i ++ (rsJ (g6 l i) m r g j ++ (spJ (g6 l i) m r g j).take n)))).length = true := ownG_p putK_pos
                      have hsc : capG (putK (g1 (spJ (g6 l i) m r g j) n, g2 (spJ (g6 l i) m r g j) n) (foP (rsI l m r g i ++ (rsJ (g6 l i) m r g j ++ (spJ (g6 l i) m r g j).take n)))).length = none := capG_p putK_pos
                      refine call_v (by kernel_rfl) (putF_c _ _ (foP (rsI l m r g i ++ (rsJ (g6 l i) m r g j ++ (spJ (g6 l i) m r g j).take n))) (g1 (spJ (g6 l i) m r g j) n) (g2 (spJ (g6 l i) m r g j) n) ⟨_, _, _, by first | rfl | (rw [List.length_append]; done) | (rw [List.length_append]; rfl), by first | rfl | (rw [get_newk]; rfl) | (rw [get_new0]; rfl) | (rw [get_newk, prs_append]; rfl) | (rw [get_new0, prs_append]; rfl)⟩ (by omega) (of_decide_eq_false (by assumption))) ?_
                      have g'13 := (jn @h14 (jn @h14d g'11))
                      refine runTf g'13 ?_
                      refine hJ2 _ _ ⟨k2 - 1, by omega, _, _, _, ⟨n + 1, by omega, rfl, rfl⟩, Abs.byG hbel [] rfl [0, 1, 2, 4] (by decide) ?_⟩
                      exact absRf (jn @hst (jn @hso @hsc))
                  · have h12d := bsT h12
                    obtain rfl : n = (spJ (g6 l i) m r g j).length := by omega
                    have htl : (spJ (g6 l i) m r g j).take (spJ (g6 l i) m r g j).length = spJ (g6 l i) m r g j := List.take_length
                    have g'14 := (jn @h12 (jn @h12d g'10))
                    refine runTf g'14 ?_
                    refine hJ1 _ _ ⟨k1 - 1, by omega, _, _, _, ⟨j + 1, by omega, rfl, rfl⟩, Abs.byG hbel [] rfl [0, 1, 3] (by decide) ?_⟩
                    exact absRf (jn @hsx @htl)
              · have h10d := bsT h10
                obtain rfl : j = (mkB (g6 l i)).length := by omega
                have g'15 := (jn @h10 (jn @h10d g'9))
                refine runTf g'15 ?_
                refine hJ0 _ _ ⟨k0 - 1, by omega, _, _, _, ⟨i + 1, by omega, rfl, rfl⟩, Abs.byG hbel [] rfl [0, 2] (by decide) ?_⟩
                exact absRf @rsI.eq_2
          · have h4d := bsT h4
            obtain rfl : i = l.length := by omega
            have hfinS : foP (rsI l m r g l.length) = susL l m r g := sus_fo hr1 htau
            have g'16 := (jn @h4 (jn @h4d g'7))
            refine runTf g'16 ?_
            refine hQ _ _ (end_byG (.inl rfl) hbel (x1 := .tup [.sl (some (H.length + 1, 0)) ((foP (rsI l m r g l.length)).length) (capG (foP (rsI l m r g l.length)).length), .int .i64 0]) (l2 := [.cells (ownG (foP (rsI l m r g l.length)).length) 2 (prs (foP (rsI l m r g l.length)))]) (.tup [.sl (some (H.length, 0)) ((foP (rsI l m r g l.length)).length) (capG (foP (rsI l m r g l.length)).length), .int .i64 0]) (resT Tryz.results24) [] rfl [1] (by decide) ⟨by first | (rw [hfinP.1, hfinP.2.1, ← hfinS]; done) | (rw [hfinP.1, hfinP.2.1, hfinN.1]; rfl) | (rw [hfinP.1, hfinP.2.1]; rfl) | skip, by first | (rw [hfinP.2.1, ← hfinS]; done) | (rw [hfinP.2.1, hfinN.1]; rfl) | (rw [hfinP.2.1]; rfl) | skip⟩ ?_)
            exact absW
    · have h2d := bsT h2
      have hfinN := susL_nil (l := l) (m := m) (g := g) (.inl (show r = -1 by omega))
      have g'17 := (jn @h2 (jn @h2d g'3))
      refine runTf g'17 ?_
      refine hQ _ _ (end_byG (.inl rfl) hbel (x1 := .tup [.sl none 0 (some 0), .int .i64 0]) (l2 := [.cells false 2 []]) (.tup [.sl (some (H.length, 0)) 0 (some 0), .int .i64 0]) (resT Tryz.results24) [.cells false 2 []] rfl [3] (by decide) ⟨by first | (rw [hfinP.1, hfinP.2.1, ← hfinS]; done) | (rw [hfinP.1, hfinP.2.1, hfinN.1]; rfl) | (rw [hfinP.1, hfinP.2.1]; rfl) | skip, by first | (rw [hfinP.2.1, ← hfinS]; done) | (rw [hfinP.2.1, hfinN.1]; rfl) | (rw [hfinP.2.1]; rfl) | skip⟩ ?_)
      exact absW
open Go.RowKit
def rngV (W Hh : Int) : Int := (((IntKind.i64.wrap (IntKind.i64.wrap (5 * W) + IntKind.i64.wrap (11 * Hh)) % 34).toNat : Nat) : Int)
theorem rngof_c (H : AHeap) (W : Int) (Hh : Int) (pp : AV) (xs : List Int) (hpp : Sl H 1 pp xs.length (ints .u8 xs)) : ACalls Tryz.prog 18 [.agg [.int .i64 W, .int .i64 Hh, pp]] H (fun v H' => v = .int .i64 (rngV W Hh) ∧ H' = H) := by
  obtain ⟨bpp, opp, cpp, rfl, hbpp⟩ := hpp
  have hblpp := getElem?_lt hbpp
  have hb0pp := fun l => get_app (l := l) hbpp
  refine AcT true Tryz.func18 ?_; intro hbel Q hQ
  have g'1 := (jn @hbpp @hb0pp)
  refine runTf g'1 ?_
  refine call_v (by kernel_rfl) (bmod_c _ (IntKind.i64.wrap ((IntKind.i64.wrap (5 * W)) + (IntKind.i64.wrap (11 * Hh)))) 34 (by omega) (by omega)) ?_
  refine runTf g'1 ?_
  exact hQ _ _ (end_plain (.inl rfl) hbel (x := .int .i64 ((((IntKind.i64.wrap ((IntKind.i64.wrap (5 * W)) + (IntKind.i64.wrap (11 * Hh)))) % 34).toNat : Nat) : Int)) (resT Tryz.results18) rfl ⟨rfl, rfl⟩)
open Go.RowKit
theorem proves_c (H : AHeap) (s : AV) (l : List T6) (m : Int) (r : Int) (g : Int) (c1 : Int) (c2 : Int) (hs : Sl H 6 s l.length (r6 l)) (hS : setB l = true) (hm : 0 ≤ m ∧ m ≤ 255) (hr : -1 ≤ r ∧ r ≤ 1024) (hg : 1 ≤ g ∧ g ≤ 32) (hc1 : 0 ≤ c1 ∧ c1 ≤ 63) (hc2 : 0 ≤ c2 ∧ c2 ≤ 63) : ACalls Tryz.prog 71 [s, .agg [.int .i64 m, .int .i64 r], .int .i64 g, .agg [.int .i64 c1, .int .i64 c2]] H (fun v H' => v = .bool (prvE l g (m, r) (c1, c2)) ∧ H' = H) := by
  obtain ⟨bs, os, cs, rfl, hbs⟩ := hs
  have hbls := getElem?_lt hbs
  have hb0s := fun l => get_app (l := l) hbs
  have hl := setB_len hS
  refine AcL true Tryz.func71 ?_; intro hbel Q hQ
  have g'1 := (jn @hbs @hb0s)
  refine runTf g'1 ?_
  refine cond_split (fun h1 => ?_) (fun h1 => ?_)
  · have h1d := bsT h1
    have hff : farF r g = 1024 - g := if_pos (by omega)
    have g'2 := (jn @h1 (jn @h1d g'1))
    refine runTf g'2 ?_
    refine go_loopA (fun k F Hx => ∃ i : Nat, i + k = l.length ∧ (∀ e ∈ dirS l m i, psC e (farF r g) (c1, c2) = true) ∧ F = [(0, .sl (some (bs, 0)) l.length cs), (5, .ptr (some (H.length, 0))), (7, .ptr (some (H.length + 1, 0))), (9, .int .i64 (1024 - g)), (10, .int .i64 ((i : Nat) : Int))] ∧ Hx = H ++ [.cells true 0 [.int .i64 m, .int .i64 r], .cells true 0 [.int .i64 c1, .int .i64 c2]]) (l.length) ?_ ?_
    · refine ⟨_, _, _, ⟨0, by omega, (fun e he => (by cases he)), rfl, rfl⟩, Abs.byG hbel [] rfl [0, 1] (by decide) ?_⟩
      exact absW
    · rintro k0 F Hx ⟨i, hm0, hA, rfl, rfl⟩ Q1 hJ0 hr1 he1
      have hQ1 := fun F H' h => hr1 F H' (hQ F H' h)
      refine AW_seqQ fun Q2 hn2 hr2 he2 => ?_
      have hQ2 := fun F H' h => hr2 F H' (hQ1 F H' h)
      refine AW_fin true try_mixed (by kernel_rfl) ?_
      refine runTf g'2 ?_
      refine cond_split (fun h2 => ?_) (fun h2 => ?_)
      · have h2d := bsT h2
        have hlt : i < l.length := by omega
        have hml := mkB_len hS hlt
        have hbb := bxB_iff.1 ((setB_iff.1 hS).2 _ (g6_mem hlt))
        have hbd : (0 ≤ g65 l i ∧ g65 l i ≤ 255) ∧ (1 ≤ g66 l i ∧ g66 l i ≤ 256) := by
          have q1 : 0 ≤ g65 l i ∧ g65 l i < 256 := (arcB_iff.1 hbb.2.2).1
          have q2 : 1 ≤ g66 l i ∧ g66 l i ≤ 256 := (arcB_iff.1 hbb.2.2).2.1
          omega
        have g'3 := (jn @h2 (jn @h2d g'2))
        refine runTf g'3 ?_
        refine hn2 _ _ ?_
        refine AW_seqQ fun Q3 hn3 hr3 he3 => ?_
        have hQ3 := fun F H' h => hr3 F H' (hQ1 F H' h)
        refine AW_blockQ fun Q4 hn4 hr4 he4 hb4 => ?_
        have hQ4 := fun F H' h => hr4 F H' (hQ3 F H' h)
        refine AW_seqQ fun Q5 hn5 hr5 he5 => ?_
        have hQ5 := fun F H' h => hr5 F H' (hQ4 F H' h)
        refine AW_fin true try_mixed (by kernel_rfl) ?_
        have q3 := r6_at0 (l := l) (j := i) (by omega)
        have q4 := r6_at2 (l := l) (j := i) (by omega)
        have q5 := r6_at0 (l := l) (j := i) (by omega)
        have q6 := r6_at2 (l := l) (j := i) (by omega)
        have g'4 := (jn @r6_len (jn @q3 (jn @q4 (jn @q5 (jn @q6 g'3)))))
        refine runTf g'4 ?_
        refine hn5 _ _ ?_
        refine AW_seqQ fun Q6 hn6 hr6 he6 => ?_
        have hQ6 := fun F H' h => hr6 F H' (hQ4 F H' h)
        refine AW_fin true try_mixed (by kernel_rfl) ?_
        have q7 := r6_at1 (l := l) (j := i) (by omega)
        have q8 := r6_at1 (l := l) (j := i) (by omega)
        have q9 := r6_at3 (l := l) (j := i) (by omega)
        have q10 := r6_at3 (l := l) (j := i) (by omega)
        have g'5 := (jn @q7 (jn @q8 (jn @q9 (jn @q10 g'4))))
        refine runTf g'5 ?_
        refine hn6 _ _ ?_
        refine AW_seqQ fun Q7 hn7 hr7 he7 => ?_
        have hQ7 := fun F H' h => hr7 F H' (hQ4 F H' h)
        refine AW_fin true try_mixed (by kernel_rfl) ?_
        refine runTf g'5 ?_
        refine hn7 _ _ ?_
        refine AW_blockQ fun Q8 hn8 hr8 he8 hb8 => ?_
        have hQ8 := fun F H' h => hr8 F H' (hQ4 F H' h)
        refine AW_loopA (fun k F Hx => ∃ j : Nat, j + k = (mkB (g6 l i)).length ∧ (∀ e ∈ dirB (g6 l i) m j, psC e (farF r g) (c1, c2) = true) ∧ F = [(0, .sl (some (bs, 0)) l.length cs), (5, .ptr (some (H.length, 0))), (7, .ptr (some (H.length + 1, 0))), (9, .int .i64 (1024 - g)), (10, .int .i64 ((i : Nat) : Int)), (11, .sl (some (H.length + 2, 0)) 4 (some 4)), (12, .sl (some (H.length + 3, 0)) 4 (some 4)), (13, .int .i64 ((j : Nat) : Int))] ∧ Hx = H ++ [.cells true 0 [.int .i64 m, .int .i64 r], .cells true 0 [.int .i64 c1, .int .i64 c2], .cells true 1 [.int .i64 (g61 l i), .int .i64 (g63 l i), .int .i64 (g61 l i), .int .i64 (g63 l i)], .cells true 1 [.int .i64 (g62 l i), .int .i64 (g62 l i), .int .i64 (g64 l i), .int .i64 (g64 l i)]]) ((mkB (g6 l i)).length) ?_ ?_
        · refine ⟨_, _, _, ⟨0, by omega, (fun e he => (by cases he)), rfl, rfl⟩, Abs.byG hbel [] rfl [0, 1, 2, 3] (by decide) ?_⟩
          exact absW
        · rintro k1 F Hx ⟨j, hm1, hB, rfl, rfl⟩ Q9 hJ1 hr9 he9
          have hQ9 := fun F H' h => hr9 F H' (hQ8 F H' h)
          refine AW_seqQ fun Q10 hn10 hr10 he10 => ?_
          have hQ10 := fun F H' h => hr10 F H' (hQ9 F H' h)
          refine AW_fin true try_mixed (by kernel_rfl) ?_
          have q11 := r6_at5 (l := l) (j := i) (by omega)
          have g'6 := (jn @q11 g'5)
          refine runTf g'6 ?_
          refine cond_split (fun h12 => ?_) (fun h12 => ?_)
          · have h12d := bsT h12
            have hjt : j < (mkB (g6 l i)).length := by omega
            have g'7 := (jn @h12 (jn @h12d g'6))
            refine runTf g'7 ?_
            refine hn10 _ _ ?_
            refine AW_seqQ fun Q11 hn11 hr11 he11 => ?_
            have hQ11 := fun F H' h => hr11 F H' (hQ9 F H' h)
            refine AW_blockQ fun Q12 hn12 hr12 he12 hb12 => ?_
            have hQ12 := fun F H' h => hr12 F H' (hQ11 F H' h)
            refine AW_special true try_mixed [[0, 1, 2, 3, 4, 5, 6, 7, 8, 9, 10, 11], [0, 1, 2, 3, 4, 5, 6, 7, 8, 10, 9, 11]] (by kernel_rfl) (fun F2 H2 => F2 = [(0, .sl (some (bs, 0)) l.length cs), (5, .ptr (some (H.length, 0))), (7, .ptr (some (H.length + 1, 0))), (9, .int .i64 (1024 - g)), (10, .int .i64 ((i : Nat) : Int)), (11, .sl (some (H.length + 2, 0)) 4 (some 4)), (12, .sl (some (H.length + 3, 0)) 4 (some 4)), (13, .int .i64 ((j : Nat) : Int)), (14, .ptr (some (H.length + 4, 0)))] ∧ H2 = H ++ [.cells true 0 [.int .i64 m, .int .i64 r], .cells true 0 [.int .i64 c1, .int .i64 c2], .cells true 1 [.int .i64 (g61 l i), .int .i64 (g63 l i), .int .i64 (g61 l i), .int .i64 (g63 l i)], .cells true 1 [.int .i64 (g62 l i), .int .i64 (g62 l i), .int .i64 (g64 l i), .int .i64 (g64 l i)], .cells true 0 [.int .i64 ((beamV ((g65 l i) + ((j : Nat) : Int)) m).1), .int .i64 ((beamV ((g65 l i) + ((j : Nat) : Int)) m).2.1), .int .i64 ((beamV ((g65 l i) + ((j : Nat) : Int)) m).2.2)]]) ?_ ?_
            · refine reps_cons ?_ (reps_cons ?_ (reps_nil)) <;> intro J hJ
              · skip
                have q13 := r6_at4 (l := l) (j := i) (by omega)
                have g'8 := (jn @q13 g'7)
                refine runDf g'8 ?_
                refine call_d (by kernel_rfl) (rbeam_c _ ((g65 l i) + ((j : Nat) : Int)) m) ?_
                refine runDf g'8 ?_
                refine inv_of (hJ _ _ ⟨_, _, _, ⟨rfl, rfl⟩, Abs.byG hbel [] rfl [0, 1, 2, 3, 4] (by decide) ?_⟩)
                exact absW
              · skip
                have q14 := r6_at4 (l := l) (j := i) (by omega)
                have g'9 := (jn @q14 g'7)
                refine runDf g'9 ?_
                refine call_d (by kernel_rfl) (rbeam_c _ ((g65 l i) + ((j : Nat) : Int)) m) ?_
                refine runDf g'9 ?_
                refine inv_of (hJ _ _ ⟨_, _, _, ⟨rfl, rfl⟩, Abs.byG hbel [] rfl [0, 1, 2, 3, 4] (by decide) ?_⟩)
                exact absW
            rintro F2 H2 ⟨rfl, rfl⟩
            refine AW_fin true try_mixed (by kernel_rfl) ?_
            refine runTf g'7 ?_
            refine go_loop try_mixed (by kernel_rfl) (fun k F Hx => ∃ q : Nat, q + k = 4 ∧ (∀ n : Nat, n < q → crP (g6 l i) (beamV (g65 l i + ((j : Nat) : Int)) m) (farF r g) c1 c2 n = true) ∧ F = [(0, .sl (some (bs, 0)) l.length cs), (5, .ptr (some (H.length, 0))), (7, .ptr (some (H.length + 1, 0))), (9, .int .i64 (1024 - g)), (10, .int .i64 ((i : Nat) : Int)), (11, .sl (some (H.length + 2, 0)) 4 (some 4)), (12, .sl (some (H.length + 3, 0)) 4 (some 4)), (13, .int .i64 ((j : Nat) : Int)), (14, .ptr (some (H.length + 4, 0))), (15, .int .i64 ((q : Nat) : Int))] ∧ Hx = H ++ [.cells true 0 [.int .i64 m, .int .i64 r], .cells true 0 [.int .i64 c1, .int .i64 c2], .cells true 1 [.int .i64 (g61 l i), .int .i64 (g63 l i), .int .i64 (g61 l i), .int .i64 (g63 l i)], .cells true 1 [.int .i64 (g62 l i), .int .i64 (g62 l i), .int .i64 (g64 l i), .int .i64 (g64 l i)], .cells true 0 [.int .i64 ((beamV ((g65 l i) + ((j : Nat) : Int)) m).1), .int .i64 ((beamV ((g65 l i) + ((j : Nat) : Int)) m).2.1), .int .i64 ((beamV ((g65 l i) + ((j : Nat) : Int)) m).2.2)]]) (4) ?_ ?_
            · refine ⟨_, _, _, ⟨0, by omega, fun n hn => by omega, rfl, rfl⟩, Abs.byG hbel [] rfl [0, 1, 2, 3, 4] (by decide) ?_⟩
              exact absW
            · rintro k2 F Hx ⟨q, hm2, hC, rfl, rfl⟩ J2 hJ2
              refine runTf g'7 ?_
              refine cond_split (fun h15 => ?_) (fun h15 => ?_)
              · have h15d := bsT h15
                obtain rfl | rfl | rfl | rfl := (by omega : q = 0 ∨ q = 1 ∨ q = 2 ∨ q = 3)
                · skip
                  have g'10 := (jn @h15 (jn @h15d g'7))
                  refine runTf g'10 ?_
                  refine call_d (by kernel_rfl) (bsquare_c _ c1 c2 (by omega) (by omega)) ?_
                  refine runTf g'10 ?_
                  refine call_d (by kernel_rfl) (rbefore_c _ (g61 l i) (g62 l i) ((beamV ((g65 l i) + ((j : Nat) : Int)) m).1) ((beamV ((g65 l i) + ((j : Nat) : Int)) m).2.1) ((beamV ((g65 l i) + ((j : Nat) : Int)) m).2.2) (1024 - g) (c1 * 64) (c2 * 64) (c1 * 64 + 64) (c2 * 64 + 64)) ?_
                  refine runTf g'10 ?_
                  refine cond_split (fun h16 => ?_) (fun h16 => ?_)
                  · have h16d := bsT h16
                    have hfinP : prvE l g (m, r) (c1, c2) = false := prv_no hlt hjt (n := 0) (by decide) (by rw [hff]; exact h16d)
                    have g'11 := (jn @h16 (jn @h16d g'10))
                    refine runTf g'11 ?_
                    exact hQ12 _ _ (end_plain (.inl rfl) hbel (x := .bool false) (resT Tryz.results71) rfl ⟨by rw [hfinP], rfl⟩)
                  · have h16d := bsT h16
                    have hcn : crP (g6 l i) (beamV (g65 l i + ((j : Nat) : Int)) m) (farF r g) c1 c2 0 = true := by rw [hff]; exact h16d
                    have g'12 := (jn @h16 (jn @h16d g'10))
                    refine runTf g'12 ?_
                    refine hJ2 _ _ ⟨k2 - 1, by omega, _, _, _, ⟨0 + 1, by omega, fun n hn => by
                                rcases Nat.lt_or_ge n 0 with h | h
                                · exact hC n h
                                · rw [show n = 0 by omega]; exact hcn, rfl, rfl⟩, Abs.byG hbel [] rfl [0, 1, 2, 3, 4] (by decide) ?_⟩
                    exact absW
                · skip
                  have g'13 := (jn @h15 (jn @h15d g'7))
                  refine runTf g'13 ?_
                  refine call_d (by kernel_rfl) (bsquare_c _ c1 c2 (by omega) (by omega)) ?_
                  refine runTf g'13 ?_
                  refine call_d (by kernel_rfl) (rbefore_c _ (g63 l i) (g62 l i) ((beamV ((g65 l i) + ((j : Nat) : Int)) m).1) ((beamV ((g65 l i) + ((j : Nat) : Int)) m).2.1) ((beamV ((g65 l i) + ((j : Nat) : Int)) m).2.2) (1024 - g) (c1 * 64) (c2 * 64) (c1 * 64 + 64) (c2 * 64 + 64)) ?_
                  refine runTf g'13 ?_
                  refine cond_split (fun h17 => ?_) (fun h17 => ?_)
                  · have h17d := bsT h17
                    have hfinP : prvE l g (m, r) (c1, c2) = false := prv_no hlt hjt (n := 1) (by decide) (by rw [hff]; exact h17d)
                    have g'14 := (jn @h17 (jn @h17d g'13))
                    refine runTf g'14 ?_
                    exact hQ12 _ _ (end_plain (.inl rfl) hbel (x := .bool false) (resT Tryz.results71) rfl ⟨by rw [hfinP], rfl⟩)
                  · have h17d := bsT h17
                    have hcn : crP (g6 l i) (beamV (g65 l i + ((j : Nat) : Int)) m) (farF r g) c1 c2 1 = true := by rw [hff]; exact h17d
                    have g'15 := (jn @h17 (jn @h17d g'13))
                    refine runTf g'15 ?_
                    refine hJ2 _ _ ⟨k2 - 1, by omega, _, _, _, ⟨1 + 1, by omega, fun n hn => by
                                rcases Nat.lt_or_ge n 1 with h | h
                                · exact hC n h
                                · rw [show n = 1 by omega]; exact hcn, rfl, rfl⟩, Abs.byG hbel [] rfl [0, 1, 2, 3, 4] (by decide) ?_⟩
                    exact absW
                · skip
                  have g'16 := (jn @h15 (jn @h15d g'7))
                  refine runTf g'16 ?_
                  refine call_d (by kernel_rfl) (bsquare_c _ c1 c2 (by omega) (by omega)) ?_
                  refine runTf g'16 ?_
                  refine call_d (by kernel_rfl) (rbefore_c _ (g61 l i) (g64 l i) ((beamV ((g65 l i) + ((j : Nat) : Int)) m).1) ((beamV ((g65 l i) + ((j : Nat) : Int)) m).2.1) ((beamV ((g65 l i) + ((j : Nat) : Int)) m).2.2) (1024 - g) (c1 * 64) (c2 * 64) (c1 * 64 + 64) (c2 * 64 + 64)) ?_
                  refine runTf g'16 ?_
                  refine cond_split (fun h18 => ?_) (fun h18 => ?_)
                  · have h18d := bsT h18
                    have hfinP : prvE l g (m, r) (c1, c2) = false := prv_no hlt hjt (n := 2) (by decide) (by rw [hff]; exact h18d)
                    have g'17 := (jn @h18 (jn @h18d g'16))
                    refine runTf g'17 ?_
                    exact hQ12 _ _ (end_plain (.inl rfl) hbel (x := .bool false) (resT Tryz.results71) rfl ⟨by rw [hfinP], rfl⟩)
                  · have h18d := bsT h18
                    have hcn : crP (g6 l i) (beamV (g65 l i + ((j : Nat) : Int)) m) (farF r g) c1 c2 2 = true := by rw [hff]; exact h18d
                    have g'18 := (jn @h18 (jn @h18d g'16))
                    refine runTf g'18 ?_
                    refine hJ2 _ _ ⟨k2 - 1, by omega, _, _, _, ⟨2 + 1, by omega, fun n hn => by
                                rcases Nat.lt_or_ge n 2 with h | h
                                · exact hC n h
                                · rw [show n = 2 by omega]; exact hcn, rfl, rfl⟩, Abs.byG hbel [] rfl [0, 1, 2, 3, 4] (by decide) ?_⟩
                    exact absW
                · skip
                  have g'19 := (jn @h15 (jn @h15d g'7))
                  refine runTf g'19 ?_
                  refine call_d (by kernel_rfl) (bsquare_c _ c1 c2 (by omega) (by omega)) ?_
                  refine runTf g'19 ?_
                  refine call_d (by kernel_rfl) (rbefore_c _ (g63 l i) (g64 l i) ((beamV ((g65 l i) + ((j : Nat) : Int)) m).1) ((beamV ((g65 l i) + ((j : Nat) : Int)) m).2.1) ((beamV ((g65 l i) + ((j : Nat) : Int)) m).2.2) (1024 - g) (c1 * 64) (c2 * 64) (c1 * 64 + 64) (c2 * 64 + 64)) ?_
                  refine runTf g'19 ?_
                  refine cond_split (fun h19 => ?_) (fun h19 => ?_)
                  · have h19d := bsT h19
                    have hfinP : prvE l g (m, r) (c1, c2) = false := prv_no hlt hjt (n := 3) (by decide) (by rw [hff]; exact h19d)
                    have g'20 := (jn @h19 (jn @h19d g'19))
                    refine runTf g'20 ?_
                    exact hQ12 _ _ (end_plain (.inl rfl) hbel (x := .bool false) (resT Tryz.results71) rfl ⟨by rw [hfinP], rfl⟩)
                  · have h19d := bsT h19
                    have hcn : crP (g6 l i) (beamV (g65 l i + ((j : Nat) : Int)) m) (farF r g) c1 c2 3 = true := by rw [hff]; exact h19d
                    have g'21 := (jn @h19 (jn @h19d g'19))
                    refine runTf g'21 ?_
                    refine hJ2 _ _ ⟨k2 - 1, by omega, _, _, _, ⟨3 + 1, by omega, fun n hn => by
                                rcases Nat.lt_or_ge n 3 with h | h
                                · exact hC n h
                                · rw [show n = 3 by omega]; exact hcn, rfl, rfl⟩, Abs.byG hbel [] rfl [0, 1, 2, 3, 4] (by decide) ?_⟩
                    exact absW
              · have h15d := bsT h15
                obtain rfl : q = 4 := by omega
                have g'22 := (jn @h15 (jn @h15d g'7))
                refine runTf g'22 ?_
                refine hn12 _ _ ?_
                refine hn11 _ _ ?_
                refine AW_fin true try_mixed (by kernel_rfl) ?_
                refine runTf g'22 ?_
                refine hJ1 _ _ ⟨k1 - 1, by omega, _, _, _, ⟨j + 1, by omega, dirB_stepP hjt hB hC, rfl, rfl⟩, Abs.byG hbel [] rfl [0, 1, 2, 3] (by decide) ?_⟩
                exact absW
          · have h12d := bsT h12
            obtain rfl : j = (mkB (g6 l i)).length := by omega
            have g'23 := (jn @h12 (jn @h12d g'6))
            refine runTf g'23 ?_
            refine he10 _ _ _ ?_
            refine he9 _ _ _ ?_
            refine hb8 _ _ ?_
            refine hn4 _ _ ?_
            refine hn3 _ _ ?_
            refine AW_fin true try_mixed (by kernel_rfl) ?_
            refine runTf g'23 ?_
            refine hJ0 _ _ ⟨k0 - 1, by omega, _, _, _, ⟨i + 1, by omega, dirS_stepP hA hB, rfl, rfl⟩, Abs.byG hbel [] rfl [0, 1] (by decide) ?_⟩
            exact absW
      · have h2d := bsT h2
        obtain rfl : i = l.length := by omega
        have hfinP : prvE l g (m, r) (c1, c2) = true := prv_yes hA
        have g'24 := (jn @h2 (jn @h2d g'2))
        refine runTf g'24 ?_
        refine he2 _ _ _ ?_
        refine he1 _ _ _ ?_
        refine runTf g'24 ?_
        exact hQ _ _ (end_plain (.inl rfl) hbel (x := .bool true) (resT Tryz.results71) rfl ⟨by rw [hfinP], rfl⟩)
  · have h1d := bsT h1
    have hff : farF r g = r - g := if_neg (by omega)
    have g'25 := (jn @h1 (jn @h1d g'1))
    refine runTf g'25 ?_
    refine go_loopA (fun k F Hx => ∃ i : Nat, i + k = l.length ∧ (∀ e ∈ dirS l m i, psC e (farF r g) (c1, c2) = true) ∧ F = [(0, .sl (some (bs, 0)) l.length cs), (5, .ptr (some (H.length, 0))), (7, .ptr (some (H.length + 1, 0))), (9, .int .i64 (r - g)), (10, .int .i64 ((i : Nat) : Int))] ∧ Hx = H ++ [.cells true 0 [.int .i64 m, .int .i64 r], .cells true 0 [.int .i64 c1, .int .i64 c2]]) (l.length) ?_ ?_
    · refine ⟨_, _, _, ⟨0, by omega, (fun e he => (by cases he)), rfl, rfl⟩, Abs.byG hbel [] rfl [0, 1] (by decide) ?_⟩
      exact absW
    · rintro k0 F Hx ⟨i, hm0, hA, rfl, rfl⟩ Q13 hJ0 hr13 he13
      have hQ13 := fun F H' h => hr13 F H' (hQ F H' h)
      refine AW_seqQ fun Q14 hn14 hr14 he14 => ?_
      have hQ14 := fun F H' h => hr14 F H' (hQ13 F H' h)
      refine AW_fin true try_mixed (by kernel_rfl) ?_
      refine runTf g'25 ?_
      refine cond_split (fun h20 => ?_) (fun h20 => ?_)
      · have h20d := bsT h20
        have hlt : i < l.length := by omega
        have hml := mkB_len hS hlt
        have hbb := bxB_iff.1 ((setB_iff.1 hS).2 _ (g6_mem hlt))
        have hbd : (0 ≤ g65 l i ∧ g65 l i ≤ 255) ∧ (1 ≤ g66 l i ∧ g66 l i ≤ 256) := by
          have q1 : 0 ≤ g65 l i ∧ g65 l i < 256 := (arcB_iff.1 hbb.2.2).1
          have q2 : 1 ≤ g66 l i ∧ g66 l i ≤ 256 := (arcB_iff.1 hbb.2.2).2.1
          omega
        have g'26 := (jn @h20 (jn @h20d g'25))
        refine runTf g'26 ?_
        refine hn14 _ _ ?_
        refine AW_seqQ fun Q15 hn15 hr15 he15 => ?_
        have hQ15 := fun F H' h => hr15 F H' (hQ13 F H' h)
        refine AW_blockQ fun Q16 hn16 hr16 he16 hb16 => ?_
        have hQ16 := fun F H' h => hr16 F H' (hQ15 F H' h)
        refine AW_seqQ fun Q17 hn17 hr17 he17 => ?_
        have hQ17 := fun F H' h => hr17 F H' (hQ16 F H' h)
        refine AW_fin true try_mixed (by kernel_rfl) ?_
        have q21 := r6_at0 (l := l) (j := i) (by omega)
        have q22 := r6_at2 (l := l) (j := i) (by omega)
        have q23 := r6_at0 (l := l) (j := i) (by omega)
        have q24 := r6_at2 (l := l) (j := i) (by omega)
        have g'27 := (jn @r6_len (jn @q21 (jn @q22 (jn @q23 (jn @q24 g'26)))))
        refine runTf g'27 ?_
        refine hn17 _ _ ?_
        refine AW_seqQ fun Q18 hn18 hr18 he18 => ?_
        have hQ18 := fun F H' h => hr18 F H' (hQ16 F H' h)
        refine AW_fin true try_mixed (by kernel_rfl) ?_
        have q25 := r6_at1 (l := l) (j := i) (by omega)
        have q26 := r6_at1 (l := l) (j := i) (by omega)
        have q27 := r6_at3 (l := l) (j := i) (by omega)
        have q28 := r6_at3 (l := l) (j := i) (by omega)
        have g'28 := (jn @q25 (jn @q26 (jn @q27 (jn @q28 g'27))))
        refine runTf g'28 ?_
        refine hn18 _ _ ?_
        refine AW_seqQ fun Q19 hn19 hr19 he19 => ?_
        have hQ19 := fun F H' h => hr19 F H' (hQ16 F H' h)
        refine AW_fin true try_mixed (by kernel_rfl) ?_
        refine runTf g'28 ?_
        refine hn19 _ _ ?_
        refine AW_blockQ fun Q20 hn20 hr20 he20 hb20 => ?_
        have hQ20 := fun F H' h => hr20 F H' (hQ16 F H' h)
        refine AW_loopA (fun k F Hx => ∃ j : Nat, j + k = (mkB (g6 l i)).length ∧ (∀ e ∈ dirB (g6 l i) m j, psC e (farF r g) (c1, c2) = true) ∧ F = [(0, .sl (some (bs, 0)) l.length cs), (5, .ptr (some (H.length, 0))), (7, .ptr (some (H.length + 1, 0))), (9, .int .i64 (r - g)), (10, .int .i64 ((i : Nat) : Int)), (11, .sl (some (H.length + 2, 0)) 4 (some 4)), (12, .sl (some (H.length + 3, 0)) 4 (some 4)), (13, .int .i64 ((j : Nat) : Int))] ∧ Hx = H ++ [.cells true 0 [.int .i64 m, .int .i64 r], .cells true 0 [.int .i64 c1, .int .i64 c2], .cells true 1 [.int .i64 (g61 l i), .int .i64 (g63 l i), .int .i64 (g61 l i), .int .i64 (g63 l i)], .cells true 1 [.int .i64 (g62 l i), .int .i64 (g62 l i), .int .i64 (g64 l i), .int .i64 (g64 l i)]]) ((mkB (g6 l i)).length) ?_ ?_
        · refine ⟨_, _, _, ⟨0, by omega, (fun e he => (by cases he)), rfl, rfl⟩, Abs.byG hbel [] rfl [0, 1, 2, 3] (by decide) ?_⟩
          exact absW
        · rintro k1 F Hx ⟨j, hm1, hB, rfl, rfl⟩ Q21 hJ1 hr21 he21
          have hQ21 := fun F H' h => hr21 F H' (hQ20 F H' h)
          refine AW_seqQ fun Q22 hn22 hr22 he22 => ?_
          have hQ22 := fun F H' h => hr22 F H' (hQ21 F H' h)
          refine AW_fin true try_mixed (by kernel_rfl) ?_
          have q29 := r6_at5 (l := l) (j := i) (by omega)
          have g'29 := (jn @q29 g'28)
          refine runTf g'29 ?_
          refine cond_split (fun h30 => ?_) (fun h30 => ?_)
          · have h30d := bsT h30
            have hjt : j < (mkB (g6 l i)).length := by omega
            have g'30 := (jn @h30 (jn @h30d g'29))
            refine runTf g'30 ?_
            refine hn22 _ _ ?_
            refine AW_seqQ fun Q23 hn23 hr23 he23 => ?_
            have hQ23 := fun F H' h => hr23 F H' (hQ21 F H' h)
            refine AW_blockQ fun Q24 hn24 hr24 he24 hb24 => ?_
            have hQ24 := fun F H' h => hr24 F H' (hQ23 F H' h)
            refine AW_special true try_mixed [[0, 1, 2, 3, 4, 5, 6, 7, 8, 9, 10, 11], [0, 1, 2, 3, 4, 5, 6, 7, 8, 10, 9, 11]] (by kernel_rfl) (fun F2 H2 => F2 = [(0, .sl (some (bs, 0)) l.length cs), (5, .ptr (some (H.length, 0))), (7, .ptr (some (H.length + 1, 0))), (9, .int .i64 (r - g)), (10, .int .i64 ((i : Nat) : Int)), (11, .sl (some (H.length + 2, 0)) 4 (some 4)), (12, .sl (some (H.length + 3, 0)) 4 (some 4)), (13, .int .i64 ((j : Nat) : Int)), (14, .ptr (some (H.length + 4, 0)))] ∧ H2 = H ++ [.cells true 0 [.int .i64 m, .int .i64 r], .cells true 0 [.int .i64 c1, .int .i64 c2], .cells true 1 [.int .i64 (g61 l i), .int .i64 (g63 l i), .int .i64 (g61 l i), .int .i64 (g63 l i)], .cells true 1 [.int .i64 (g62 l i), .int .i64 (g62 l i), .int .i64 (g64 l i), .int .i64 (g64 l i)], .cells true 0 [.int .i64 ((beamV ((g65 l i) + ((j : Nat) : Int)) m).1), .int .i64 ((beamV ((g65 l i) + ((j : Nat) : Int)) m).2.1), .int .i64 ((beamV ((g65 l i) + ((j : Nat) : Int)) m).2.2)]]) ?_ ?_
            · refine reps_cons ?_ (reps_cons ?_ (reps_nil)) <;> intro J hJ
              · skip
                have q31 := r6_at4 (l := l) (j := i) (by omega)
                have g'31 := (jn @q31 g'30)
                refine runDf g'31 ?_
                refine call_d (by kernel_rfl) (rbeam_c _ ((g65 l i) + ((j : Nat) : Int)) m) ?_
                refine runDf g'31 ?_
                refine inv_of (hJ _ _ ⟨_, _, _, ⟨rfl, rfl⟩, Abs.byG hbel [] rfl [0, 1, 2, 3, 4] (by decide) ?_⟩)
                exact absW
              · skip
                have q32 := r6_at4 (l := l) (j := i) (by omega)
                have g'32 := (jn @q32 g'30)
                refine runDf g'32 ?_
                refine call_d (by kernel_rfl) (rbeam_c _ ((g65 l i) + ((j : Nat) : Int)) m) ?_
                refine runDf g'32 ?_
                refine inv_of (hJ _ _ ⟨_, _, _, ⟨rfl, rfl⟩, Abs.byG hbel [] rfl [0, 1, 2, 3, 4] (by decide) ?_⟩)
                exact absW
            rintro F2 H2 ⟨rfl, rfl⟩
            refine AW_fin true try_mixed (by kernel_rfl) ?_
            refine runTf g'30 ?_
            refine go_loop try_mixed (by kernel_rfl) (fun k F Hx => ∃ q : Nat, q + k = 4 ∧ (∀ n : Nat, n < q → crP (g6 l i) (beamV (g65 l i + ((j : Nat) : Int)) m) (farF r g) c1 c2 n = true) ∧ F = [(0, .sl (some (bs, 0)) l.length cs), (5, .ptr (some (H.length, 0))), (7, .ptr (some (H.length + 1, 0))), (9, .int .i64 (r - g)), (10, .int .i64 ((i : Nat) : Int)), (11, .sl (some (H.length + 2, 0)) 4 (some 4)), (12, .sl (some (H.length + 3, 0)) 4 (some 4)), (13, .int .i64 ((j : Nat) : Int)), (14, .ptr (some (H.length + 4, 0))), (15, .int .i64 ((q : Nat) : Int))] ∧ Hx = H ++ [.cells true 0 [.int .i64 m, .int .i64 r], .cells true 0 [.int .i64 c1, .int .i64 c2], .cells true 1 [.int .i64 (g61 l i), .int .i64 (g63 l i), .int .i64 (g61 l i), .int .i64 (g63 l i)], .cells true 1 [.int .i64 (g62 l i), .int .i64 (g62 l i), .int .i64 (g64 l i), .int .i64 (g64 l i)], .cells true 0 [.int .i64 ((beamV ((g65 l i) + ((j : Nat) : Int)) m).1), .int .i64 ((beamV ((g65 l i) + ((j : Nat) : Int)) m).2.1), .int .i64 ((beamV ((g65 l i) + ((j : Nat) : Int)) m).2.2)]]) (4) ?_ ?_
            · refine ⟨_, _, _, ⟨0, by omega, fun n hn => by omega, rfl, rfl⟩, Abs.byG hbel [] rfl [0, 1, 2, 3, 4] (by decide) ?_⟩
              exact absW
            · rintro k2 F Hx ⟨q, hm2, hC, rfl, rfl⟩ J2 hJ2
              refine runTf g'30 ?_
              refine cond_split (fun h33 => ?_) (fun h33 => ?_)
              · have h33d := bsT h33
                obtain rfl | rfl | rfl | rfl := (by omega : q = 0 ∨ q = 1 ∨ q = 2 ∨ q = 3)
                · skip
                  have g'33 := (jn @h33 (jn @h33d g'30))
                  refine runTf g'33 ?_
                  refine call_d (by kernel_rfl) (bsquare_c _ c1 c2 (by omega) (by omega)) ?_
                  refine runTf g'33 ?_
                  refine call_d (by kernel_rfl) (rbefore_c _ (g61 l i) (g62 l i) ((beamV ((g65 l i) + ((j : Nat) : Int)) m).1) ((beamV ((g65 l i) + ((j : Nat) : Int)) m).2.1) ((beamV ((g65 l i) + ((j : Nat) : Int)) m).2.2) (r - g) (c1 * 64) (c2 * 64) (c1 * 64 + 64) (c2 * 64 + 64)) ?_
                  refine runTf g'33 ?_
                  refine cond_split (fun h34 => ?_) (fun h34 => ?_)
                  · have h34d := bsT h34
                    have hfinP : prvE l g (m, r) (c1, c2) = false := prv_no hlt hjt (n := 0) (by decide) (by rw [hff]; exact h34d)
                    have g'34 := (jn @h34 (jn @h34d g'33))
                    refine runTf g'34 ?_
                    exact hQ24 _ _ (end_plain (.inl rfl) hbel (x := .bool false) (resT Tryz.results71) rfl ⟨by rw [hfinP], rfl⟩)
                  · have h34d := bsT h34
                    have hcn : crP (g6 l i) (beamV (g65 l i + ((j : Nat) : Int)) m) (farF r g) c1 c2 0 = true := by rw [hff]; exact h34d
                    have g'35 := (jn @h34 (jn @h34d g'33))
                    refine runTf g'35 ?_
                    refine hJ2 _ _ ⟨k2 - 1, by omega, _, _, _, ⟨0 + 1, by omega, fun n hn => by
                                rcases Nat.lt_or_ge n 0 with h | h
                                · exact hC n h
                                · rw [show n = 0 by omega]; exact hcn, rfl, rfl⟩, Abs.byG hbel [] rfl [0, 1, 2, 3, 4] (by decide) ?_⟩
                    exact absW
                · skip
                  have g'36 := (jn @h33 (jn @h33d g'30))
                  refine runTf g'36 ?_
                  refine call_d (by kernel_rfl) (bsquare_c _ c1 c2 (by omega) (by omega)) ?_
                  refine runTf g'36 ?_
                  refine call_d (by kernel_rfl) (rbefore_c _ (g63 l i) (g62 l i) ((beamV ((g65 l i) + ((j : Nat) : Int)) m).1) ((beamV ((g65 l i) + ((j : Nat) : Int)) m).2.1) ((beamV ((g65 l i) + ((j : Nat) : Int)) m).2.2) (r - g) (c1 * 64) (c2 * 64) (c1 * 64 + 64) (c2 * 64 + 64)) ?_
                  refine runTf g'36 ?_
                  refine cond_split (fun h35 => ?_) (fun h35 => ?_)
                  · have h35d := bsT h35
                    have hfinP : prvE l g (m, r) (c1, c2) = false := prv_no hlt hjt (n := 1) (by decide) (by rw [hff]; exact h35d)
                    have g'37 := (jn @h35 (jn @h35d g'36))
                    refine runTf g'37 ?_
                    exact hQ24 _ _ (end_plain (.inl rfl) hbel (x := .bool false) (resT Tryz.results71) rfl ⟨by rw [hfinP], rfl⟩)
                  · have h35d := bsT h35
                    have hcn : crP (g6 l i) (beamV (g65 l i + ((j : Nat) : Int)) m) (farF r g) c1 c2 1 = true := by rw [hff]; exact h35d
                    have g'38 := (jn @h35 (jn @h35d g'36))
                    refine runTf g'38 ?_
                    refine hJ2 _ _ ⟨k2 - 1, by omega, _, _, _, ⟨1 + 1, by omega, fun n hn => by
                                rcases Nat.lt_or_ge n 1 with h | h
                                · exact hC n h
                                · rw [show n = 1 by omega]; exact hcn, rfl, rfl⟩, Abs.byG hbel [] rfl [0, 1, 2, 3, 4] (by decide) ?_⟩
                    exact absW
                · skip
                  have g'39 := (jn @h33 (jn @h33d g'30))
                  refine runTf g'39 ?_
                  refine call_d (by kernel_rfl) (bsquare_c _ c1 c2 (by omega) (by omega)) ?_
                  refine runTf g'39 ?_
                  refine call_d (by kernel_rfl) (rbefore_c _ (g61 l i) (g64 l i) ((beamV ((g65 l i) + ((j : Nat) : Int)) m).1) ((beamV ((g65 l i) + ((j : Nat) : Int)) m).2.1) ((beamV ((g65 l i) + ((j : Nat) : Int)) m).2.2) (r - g) (c1 * 64) (c2 * 64) (c1 * 64 + 64) (c2 * 64 + 64)) ?_
                  refine runTf g'39 ?_
                  refine cond_split (fun h36 => ?_) (fun h36 => ?_)
                  · have h36d := bsT h36
                    have hfinP : prvE l g (m, r) (c1, c2) = false := prv_no hlt hjt (n := 2) (by decide) (by rw [hff]; exact h36d)
                    have g'40 := (jn @h36 (jn @h36d g'39))
                    refine runTf g'40 ?_
                    exact hQ24 _ _ (end_plain (.inl rfl) hbel (x := .bool false) (resT Tryz.results71) rfl ⟨by rw [hfinP], rfl⟩)
                  · have h36d := bsT h36
                    have hcn : crP (g6 l i) (beamV (g65 l i + ((j : Nat) : Int)) m) (farF r g) c1 c2 2 = true := by rw [hff]; exact h36d
                    have g'41 := (jn @h36 (jn @h36d g'39))
                    refine runTf g'41 ?_
                    refine hJ2 _ _ ⟨k2 - 1, by omega, _, _, _, ⟨2 + 1, by omega, fun n hn => by
                                rcases Nat.lt_or_ge n 2 with h | h
                                · exact hC n h
                                · rw [show n = 2 by omega]; exact hcn, rfl, rfl⟩, Abs.byG hbel [] rfl [0, 1, 2, 3, 4] (by decide) ?_⟩
                    exact absW
                · skip
                  have g'42 := (jn @h33 (jn @h33d g'30))
                  refine runTf g'42 ?_
                  refine call_d (by kernel_rfl) (bsquare_c _ c1 c2 (by omega) (by omega)) ?_
                  refine runTf g'42 ?_
                  refine call_d (by kernel_rfl) (rbefore_c _ (g63 l i) (g64 l i) ((beamV ((g65 l i) + ((j : Nat) : Int)) m).1) ((beamV ((g65 l i) + ((j : Nat) : Int)) m).2.1) ((beamV ((g65 l i) + ((j : Nat) : Int)) m).2.2) (r - g) (c1 * 64) (c2 * 64) (c1 * 64 + 64) (c2 * 64 + 64)) ?_
                  refine runTf g'42 ?_
                  refine cond_split (fun h37 => ?_) (fun h37 => ?_)
                  · have h37d := bsT h37
                    have hfinP : prvE l g (m, r) (c1, c2) = false := prv_no hlt hjt (n := 3) (by decide) (by rw [hff]; exact h37d)
                    have g'43 := (jn @h37 (jn @h37d g'42))
                    refine runTf g'43 ?_
                    exact hQ24 _ _ (end_plain (.inl rfl) hbel (x := .bool false) (resT Tryz.results71) rfl ⟨by rw [hfinP], rfl⟩)
                  · have h37d := bsT h37
                    have hcn : crP (g6 l i) (beamV (g65 l i + ((j : Nat) : Int)) m) (farF r g) c1 c2 3 = true := by rw [hff]; exact h37d
                    have g'44 := (jn @h37 (jn @h37d g'42))
                    refine runTf g'44 ?_
                    refine hJ2 _ _ ⟨k2 - 1, by omega, _, _, _, ⟨3 + 1, by omega, fun n hn => by
                                rcases Nat.lt_or_ge n 3 with h | h
                                · exact hC n h
                                · rw [show n = 3 by omega]; exact hcn, rfl, rfl⟩, Abs.byG hbel [] rfl [0, 1, 2, 3, 4] (by decide) ?_⟩
                    exact absW
              · have h33d := bsT h33
                obtain rfl : q = 4 := by omega
                have g'45 := (jn @h33 (jn @h33d g'30))
                refine runTf g'45 ?_
                refine hn24 _ _ ?_
                refine hn23 _ _ ?_
                refine AW_fin true try_mixed (by kernel_rfl) ?_
                refine runTf g'45 ?_
                refine hJ1 _ _ ⟨k1 - 1, by omega, _, _, _, ⟨j + 1, by omega, dirB_stepP hjt hB hC, rfl, rfl⟩, Abs.byG hbel [] rfl [0, 1, 2, 3] (by decide) ?_⟩
                exact absW
          · have h30d := bsT h30
            obtain rfl : j = (mkB (g6 l i)).length := by omega
            have g'46 := (jn @h30 (jn @h30d g'29))
            refine runTf g'46 ?_
            refine he22 _ _ _ ?_
            refine he21 _ _ _ ?_
            refine hb20 _ _ ?_
            refine hn16 _ _ ?_
            refine hn15 _ _ ?_
            refine AW_fin true try_mixed (by kernel_rfl) ?_
            refine runTf g'46 ?_
            refine hJ0 _ _ ⟨k0 - 1, by omega, _, _, _, ⟨i + 1, by omega, dirS_stepP hA hB, rfl, rfl⟩, Abs.byG hbel [] rfl [0, 1] (by decide) ?_⟩
            exact absW
      · have h20d := bsT h20
        obtain rfl : i = l.length := by omega
        have hfinP : prvE l g (m, r) (c1, c2) = true := prv_yes hA
        have g'47 := (jn @h20 (jn @h20d g'25))
        refine runTf g'47 ?_
        refine he14 _ _ _ ?_
        refine he13 _ _ _ ?_
        refine runTf g'47 ?_
        exact hQ _ _ (end_plain (.inl rfl) hbel (x := .bool true) (resT Tryz.results71) rfl ⟨by rw [hfinP], rfl⟩)
open Go.RowKit
theorem rProven_c (H : AHeap) (W : Int) (Hh : Int) (pp : AV) (xs : List Int) (s : AV) (l : List T6) (q : AV) (sc : List (Int × Int)) (g : Int) (hpp : Sl H 1 pp xs.length (ints .u8 xs)) (hs : Sl H 6 s l.length (r6 l)) (hq : Sl H 2 q sc.length (prs sc)) (hl : l.length ≤ 1000000000) (hsc : sc.length ≤ 1000000000) : ACalls Tryz.prog 19 [.agg [.int .i64 W, .int .i64 Hh, pp], s, q, .int .i64 g] H (fun v H' => v = .tup [.sl (some (H.length, 0)) ((pvL W Hh xs l sc g).length) (capG (pvL W Hh xs l sc g).length), .int .i64 (pvE W Hh xs l sc g)] ∧ H' = H ++ [.cells (ownG (pvL W Hh xs l sc g).length) 2 (prs (pvL W Hh xs l sc g))]) := by
  obtain ⟨bpp, opp, cpp, rfl, hbpp⟩ := hpp
  have hblpp := getElem?_lt hbpp
  have hb0pp := fun l => get_app (l := l) hbpp
  obtain ⟨bs, os, cs, rfl, hbs⟩ := hs
  have hbls := getElem?_lt hbs
  have hb0s := fun l => get_app (l := l) hbs
  obtain ⟨bq, oq, cq, rfl, hbq⟩ := hq
  have hblq := getElem?_lt hbq
  have hb0q := fun l => get_app (l := l) hbq
  refine AcT false Tryz.func19 ?_; intro hbel Q hQ
  have g'1 := (jn @hbpp (jn @hb0pp (jn @hbs (jn @hb0s (jn @hbq @hb0q)))))
  refine runTf g'1 ?_
  refine call_v (by kernel_rfl) (rvalid_k _ W Hh _ xs _ l _ sc g ⟨_, _, _, rfl, by first | exact hb0pp _ | exact hbpp⟩ ⟨_, _, _, rfl, by first | exact hb0s _ | exact hbs⟩ ⟨_, _, _, rfl, by first | exact hb0q _ | exact hbq⟩ (by first | omega | simp) (by first | omega | simp)) ?_
  refine runTf g'1 ?_
  refine cond_split (fun h1 => ?_) (fun h1 => ?_)
  · have h1d := bsT h1
    have hfinP := pv_f h1d
    have g'2 := (jn @h1 (jn @h1d g'1))
    refine runTf g'2 ?_
    refine hQ _ _ (end_byG (.inl rfl) hbel (x1 := .tup [.sl none 0 (some 0), .int .i64 1]) (l2 := [.cells false 2 []]) (.tup [.sl (some (H.length, 0)) 0 (some 0), .int .i64 1]) (resT Tryz.results19) [.cells false 2 []] rfl [1] (by decide) ⟨by first | (rw [hfinP.1, hfinP.2.1]; done) | (rw [hfinP.1, hfinP.2.1]; rfl) | (rw [hfinE, hfinN]; done) | (rw [hfinE, hfinN]; rfl) | (rw [hfinE, hfinG]; done) | skip, by first | (rw [hfinP.2.1]; rfl) | (rw [hfinN]; rfl) | (rw [hfinG]; rfl) | (rw [hfinG]; done) | skip⟩ ?_)
    exact absW
  · have h1d := bsT h1
    have hR := h1d
    obtain ⟨hV, hl0, hS, hsB, hg⟩ := rgtA_iff.1 hR
    have hVV := vld_iff.1 hV
    have hWb : 1 ≤ W ∧ W ≤ 64 := ⟨hVV.w0, hVV.w1⟩
    have hHb : 1 ≤ Hh ∧ Hh ≤ 64 := ⟨hVV.h0, hVV.h1⟩
    have hsc2 := scnB_iff.1 hsB
    have hfinE : pvE W Hh xs l sc g = 0 := (pv_t hR).1
    have g'3 := (jn @h1 (jn @h1d g'1))
    refine runTf g'3 ?_
    refine go_loop try_mixed (by kernel_rfl) (fun k F Hx => ∃ n : Nat, n + k = Hh.toNat ∧ (tauB l = true ∨ n = 0) ∧ F = [(1, .sl (some (bs, 0)) l.length cs), (2, .sl (some (bq, 0)) sc.length cq), (3, .int .i64 g), (4, .ptr (some (H.length, 0))), (10, .sl (some (H.length + 1, 0)) ((gridR (prvQ l sc g) 0 W.toNat 0 n).length) (capG (gridR (prvQ l sc g) 0 W.toNat 0 n).length)), (11, .int .i64 ((n : Nat) : Int))] ∧ Hx = H ++ [.cells true 0 [.int .i64 W, .int .i64 Hh, .sl (some (bpp, 0)) xs.length cpp], .cells (ownG (gridR (prvQ l sc g) 0 W.toNat 0 n).length) 2 (prs (gridR (prvQ l sc g) 0 W.toNat 0 n))]) (Hh.toNat) ?_ ?_
    · refine ⟨_, _, _, ⟨0, by omega, .inr rfl, rfl, rfl⟩, Abs.byG hbel [.cells false 2 []] rfl [0, 1] (by decide) ?_⟩
      exact absRf @gridR_0
    · rintro k0 F Hx ⟨n, hm0, hor, rfl, rfl⟩ J0 hJ0
      have g'4 := (jn @prs_len (jn @prs_one g'3))
      refine runTf g'4 ?_
      refine gd_split (fun h2 => ?_) (fun h2 => ?_)
      · have h2d := bsT h2
        have hnt : n < Hh.toNat := by omega
        have g'5 := (jn @h2 (jn @h2d g'4))
        refine runTf g'5 ?_
        refine call_v (by kernel_rfl) (rsmall_c _ _ l ⟨_, _, _, rfl, by first | exact hb0s _ | exact hbs⟩ (by assumption)) ?_
        refine runTf g'5 ?_
        refine cond_split (fun h3 => ?_) (fun h3 => ?_)
        · have h3d := bsT h3
          have htau := h3d
          have g'6 := (jn @h3 (jn @h3d g'5))
          refine runTf g'6 ?_
          refine go_loop try_mixed (by kernel_rfl) (fun k F Hx => ∃ m : Nat, m + k = W.toNat ∧ F = [(1, .sl (some (bs, 0)) l.length cs), (2, .sl (some (bq, 0)) sc.length cq), (3, .int .i64 g), (4, .ptr (some (H.length, 0))), (10, .sl (some (H.length + 1, 0)) ((gridR (prvQ l sc g) 0 W.toNat 0 n ++ rowR (prvQ l sc g) 0 (0 + ((n : Nat) : Int)) m).length) (capG (gridR (prvQ l sc g) 0 W.toNat 0 n ++ rowR (prvQ l sc g) 0 (0 + ((n : Nat) : Int)) m).length)), (11, .int .i64 ((n : Nat) : Int)), (12, .int .i64 ((m : Nat) : Int))] ∧ Hx = H ++ [.cells true 0 [.int .i64 W, .int .i64 Hh, .sl (some (bpp, 0)) xs.length cpp], .cells (ownG (gridR (prvQ l sc g) 0 W.toNat 0 n ++ rowR (prvQ l sc g) 0 (0 + ((n : Nat) : Int)) m).length) 2 (prs (gridR (prvQ l sc g) 0 W.toNat 0 n ++ rowR (prvQ l sc g) 0 (0 + ((n : Nat) : Int)) m))]) (W.toNat) ?_ ?_
          · refine ⟨_, _, _, ⟨0, by omega, rfl, rfl⟩, Abs.byG hbel [] rfl [0, 1] (by decide) ?_⟩
            exact absRf (jn @rowR_0 @List.append_nil.{0})
          · rintro k1 F Hx ⟨m, hm1, rfl, rfl⟩ J1 hJ1
            refine runTf g'6 ?_
            refine cond_split (fun h4 => ?_) (fun h4 => ?_)
            · have h4d := bsT h4
              have hmt : m < W.toNat := by omega
              have hgb := gridR_len (p := prvQ l sc g) (x0 := 0) (y0 := 0) (w := W.toNat) n
              have hgm : n * W.toNat ≤ 64 * 64 := Nat.mul_le_mul (by omega) (by omega)
              have hrb := rowR_len (p := prvQ l sc g) (x0 := 0) (y := 0 + ((n : Nat) : Int)) m
              have g'7 := (jn @h4 (jn @h4d g'6))
              refine runTf g'7 ?_
              refine go_loop try_mixed (by kernel_rfl) (fun k F Hx => ∃ i : Nat, i + k = sc.length ∧ F = [(1, .sl (some (bs, 0)) l.length cs), (2, .sl (some (bq, 0)) sc.length cq), (3, .int .i64 g), (4, .ptr (some (H.length, 0))), (10, .sl (some (H.length + 1, 0)) ((gridR (prvQ l sc g) 0 W.toNat 0 n ++ rowR (prvQ l sc g) 0 (0 + ((n : Nat) : Int)) m).length) (capG (gridR (prvQ l sc g) 0 W.toNat 0 n ++ rowR (prvQ l sc g) 0 (0 + ((n : Nat) : Int)) m).length)), (11, .int .i64 ((n : Nat) : Int)), (12, .int .i64 ((m : Nat) : Int)), (13, .ptr (some (H.length + 2, 0))), (14, .bool (fndB l sc g ((m : Nat) : Int) ((n : Nat) : Int) i)), (15, .int .i64 ((i : Nat) : Int))] ∧ Hx = H ++ [.cells true 0 [.int .i64 W, .int .i64 Hh, .sl (some (bpp, 0)) xs.length cpp], .cells (ownG (gridR (prvQ l sc g) 0 W.toNat 0 n ++ rowR (prvQ l sc g) 0 (0 + ((n : Nat) : Int)) m).length) 2 (prs (gridR (prvQ l sc g) 0 W.toNat 0 n ++ rowR (prvQ l sc g) 0 (0 + ((n : Nat) : Int)) m)), .cells true 0 [.int .i64 ((m : Nat) : Int), .int .i64 ((n : Nat) : Int)]]) (sc.length) ?_ ?_
              · refine ⟨_, _, _, ⟨0, by omega, rfl, rfl⟩, Abs.byG hbel [] rfl [0, 1, 2] (by decide) ?_⟩
                exact absRf @fnd_0
              · rintro k2 F Hx ⟨i, hm2, rfl, rfl⟩ J2 hJ2
                refine runTf g'7 ?_
                refine gd_split (fun h5 => ?_) (fun h5 => ?_)
                · have h5d := bsT h5
                  have hlt : i < sc.length := by omega
                  have hbi := beaB_iff.1 (hsc2.2 _ (List.getElem_mem hlt))
                  rw [← pr_eq hlt] at hbi
                  have g'8 := (jn @h5 (jn @h5d g'7))
                  refine runTf g'8 ?_
                  refine cond_split (fun h6 => ?_) (fun h6 => ?_)
                  · have h6d := bsT h6
                    have hst := fnd_s hlt h6d
                    have q7 := prs_load (l := sc) (j := i) (by omega)
                    have g'9 := (jn @h6 (jn @h6d (jn @q7 g'8)))
                    refine runTf g'9 ?_
                    refine call_d (by kernel_rfl) (proves_c _ _ l (g1 sc i) (g2 sc i) g ((m : Nat) : Int) ((n : Nat) : Int) ⟨_, _, _, rfl, by first | exact hb0s _ | exact hbs⟩ hS (by omega) (by omega) hg (by omega) (by omega)) ?_
                    refine runTf g'9 ?_
                    refine hJ2 _ _ ⟨k2 - 1, by omega, _, _, _, ⟨i + 1, by omega, rfl, rfl⟩, Abs.byG hbel [] rfl [0, 1, 2] (by decide) ?_⟩
                    exact absRf @hst
                  · have h6d := bsT h6
                    have hfd := h6d
                    have hrs := rwR_t (p := prvQ l sc g) (m := m) (n := n) (fnd_t hfd)
                    have g'10 := (jn @h6 (jn @h6d (jn @capG_s g'8)))
                    refine runTf g'10 ?_
                    refine hJ1 _ _ ⟨k1 - 1, by omega, _, _, _, ⟨m + 1, by omega, rfl, rfl⟩, Abs.byG hbel [] rfl [0, 4] (by decide) ?_⟩
                    exact absRf (jn @hrs @List.append_assoc.{0})
                · have h5d := bsT h5
                  have g'11 := (jn @h5 (jn @h5d g'7))
                  refine runTf g'11 ?_
                  refine cond_split (fun h8 => ?_) (fun h8 => ?_)
                  · have h8d := bsT h8
                    have hfd := h8d
                    have hrs := rwR_t (p := prvQ l sc g) (m := m) (n := n) (fnd_t hfd)
                    have g'12 := (jn @h8 (jn @h8d (jn @capG_s g'11)))
                    refine runTf g'12 ?_
                    refine hJ1 _ _ ⟨k1 - 1, by omega, _, _, _, ⟨m + 1, by omega, rfl, rfl⟩, Abs.byG hbel [] rfl [0, 4] (by decide) ?_⟩
                    exact absRf (jn @hrs @List.append_assoc.{0})
                  · have h8d := bsT h8
                    have hrs := rwR_f (p := prvQ l sc g) (m := m) (n := n) (by rw [← fnd_e, ← show i = sc.length by omega]; exact h8d)
                    have g'13 := (jn @h8 (jn @h8d g'11))
                    refine runTf g'13 ?_
                    refine hJ1 _ _ ⟨k1 - 1, by omega, _, _, _, ⟨m + 1, by omega, rfl, rfl⟩, Abs.byG hbel [] rfl [0, 1] (by decide) ?_⟩
                    exact absRf (jn @hrs @List.append_assoc.{0})
            · have h4d := bsT h4
              obtain rfl : m = W.toNat := by omega
              have g'14 := (jn @h4 (jn @h4d g'6))
              refine runTf g'14 ?_
              refine hJ0 _ _ ⟨k0 - 1, by omega, _, _, _, ⟨n + 1, by omega, .inl htau, rfl, rfl⟩, Abs.byG hbel [] rfl [0, 1] (by decide) ?_⟩
              exact absRf @gridR_s
        · have h3d := bsT h3
          have htau := h3d
          have hn0 : n = 0 := by rcases hor with h | h; rw [h] at htau; cases htau; exact h
          have hfinG : gridR (prvQ l sc g) 0 W.toNat 0 n = pvL W Hh xs l sc g := by rw [hn0, (pv_t hR).2.1, (allL_nil htau).1]; rfl
          have g'15 := (jn @h3 (jn @h3d g'5))
          refine runTf g'15 ?_
          refine hQ _ _ (end_byG (.inl rfl) hbel (x1 := .tup [.sl (some (H.length + 1, 0)) ((gridR (prvQ l sc g) 0 W.toNat 0 n).length) (capG (gridR (prvQ l sc g) 0 W.toNat 0 n).length), .int .i64 0]) (l2 := [.cells (ownG (gridR (prvQ l sc g) 0 W.toNat 0 n).length) 2 (prs (gridR (prvQ l sc g) 0 W.toNat 0 n))]) (.tup [.sl (some (H.length, 0)) ((gridR (prvQ l sc g) 0 W.toNat 0 n).length) (capG (gridR (prvQ l sc g) 0 W.toNat 0 n).length), .int .i64 0]) (resT Tryz.results19) [] rfl [1] (by decide) ⟨by first | (rw [hfinP.1, hfinP.2.1]; done) | (rw [hfinP.1, hfinP.2.1]; rfl) | (rw [hfinE, hfinN]; done) | (rw [hfinE, hfinN]; rfl) | (rw [hfinE, hfinG]; done) | skip, by first | (rw [hfinP.2.1]; rfl) | (rw [hfinN]; rfl) | (rw [hfinG]; rfl) | (rw [hfinG]; done) | skip⟩ ?_)
          exact absW
      · have h2d := bsT h2
        have hn1 : n = Hh.toNat := by omega
        have hfinG : gridR (prvQ l sc g) 0 W.toNat 0 n = pvL W Hh xs l sc g := by
          rw [hn1]
          rcases hor with h | h
          · exact pv_grid hR h
          · omega
        have g'16 := (jn @h2 (jn @h2d g'4))
        refine runTf g'16 ?_
        refine hQ _ _ (end_byG (.inl rfl) hbel (x1 := .tup [.sl (some (H.length + 1, 0)) ((gridR (prvQ l sc g) 0 W.toNat 0 n).length) (capG (gridR (prvQ l sc g) 0 W.toNat 0 n).length), .int .i64 0]) (l2 := [.cells (ownG (gridR (prvQ l sc g) 0 W.toNat 0 n).length) 2 (prs (gridR (prvQ l sc g) 0 W.toNat 0 n))]) (.tup [.sl (some (H.length, 0)) ((gridR (prvQ l sc g) 0 W.toNat 0 n).length) (capG (gridR (prvQ l sc g) 0 W.toNat 0 n).length), .int .i64 0]) (resT Tryz.results19) [] rfl [1] (by decide) ⟨by first | (rw [hfinP.1, hfinP.2.1]; done) | (rw [hfinP.1, hfinP.2.1]; rfl) | (rw [hfinE, hfinN]; done) | (rw [hfinE, hfinN]; rfl) | (rw [hfinE, hfinG]; done) | skip, by first | (rw [hfinP.2.1]; rfl) | (rw [hfinN]; rfl) | (rw [hfinG]; rfl) | (rw [hfinG]; done) | skip⟩ ?_)
        exact absW
open Go.RowKit
theorem ints_all {k : IntKind} {l : List Int} : (ints k l).take l.length = ints k l ∧ (ints k l).take (l.length * 1) = ints k l := ⟨List.take_of_length_le (by rw [ints_len]; omega), List.take_of_length_le (by rw [ints_len]; omega)⟩
variable {W Hh : Int} {xs : List Int} {l : List T6} {sc : List (Int × Int)} {g : Int}
theorem pvE_t (h : pvE W Hh xs l sc g = 0) : rgtA W Hh xs l sc g = true := by
  cases k : rgtA W Hh xs l sc g
  · unfold pvE at h; rw [k] at h; exact absurd h (by decide)
  · rfl
theorem pvE_f (h : ¬ pvE W Hh xs l sc g = 0) : rgtA W Hh xs l sc g = false := by
  cases k : rgtA W Hh xs l sc g
  · rfl
  · exact absurd (pv_t k).1 h
/-- Arguments with one beam of a valid scan are valid. -/
theorem rgt_bm (h : rgtA W Hh xs l sc g = true) {m r : Int} (he : beaB m r = true) : rgtA W Hh xs l [(m, r)] g = true := by
  obtain ⟨a, b, c, d, e⟩ := rgtA_iff.1 h
  exact rgtA_iff.2 ⟨a, b, c, scnB_iff.2 ⟨by simp, fun x hx => by rw [List.mem_singleton.1 hx]; exact he⟩, e⟩
theorem ss_bm (h : rgtA W Hh xs l sc g = true) {m r : Int} (he : beaB m r = true) : ssL W Hh xs l m r g = susL l m r g := (ss_t (rgt_bm h he)).2.1
theorem pvL_in {c : Int × Int} (h : c ∈ pvL W Hh xs l sc g) : inB W Hh c.1 c.2 = true := (mem_pv.1 h).2.2.1
theorem lrnR_step {A : List (Int × Int)} {o : List Int} {i : Nat} (hi : i < A.length) (hA : ∀ c ∈ A, inB W Hh c.1 c.2 = true) : lrnR W Hh xs (A.drop i) o = if atI W Hh xs (g1 A i) (g2 A i) = 2 then none else lrnR W Hh xs (A.drop (i + 1)) (o.set ((g2 A i * W) + g1 A i).toNat 1) := by
  rw [List.drop_eq_getElem_cons hi]
  have e : cidx W A[i] = ((g2 A i * W) + g1 A i).toNat := by rw [← pr_eq hi]; rfl
  conv => lhs; unfold lrnR
  rw [e, ← pr_eq hi]
/-- What the reference learns. -/
theorem lnO_ref (hR : rgtA W Hh xs l sc g = true) : lnO W Hh xs l sc g = (lrnR W Hh xs (pvL W Hh xs l sc g) xs).bind fun o => if tauB l = true then lrnW W Hh (echL l sc g) o else some o := by
  have hv := vld_iff.1 (rgtA_iff.1 hR).1
  rw [(pv_t hR).2.1]
  unfold lnO
  by_cases ht : tauB l = true
  · rw [if_pos ht, lrnR_first hv.len (fun c hc => allL_in hc)]
    simp only [if_pos ht]
  · have ht' : tauB l = false := by simpa using ht
    rw [if_neg ht, (allL_nil ht').1]
    simp only [if_neg ht]
    rfl
/-- The last cell. -/
def lasC (d : List (Int × Int)) : Int × Int := d.getLastD (0, 0)
theorem lasC_0 : lasC [] = (0, 0) := rfl
theorem lasC_s {d : List (Int × Int)} {c : Int × Int} : lasC (d ++ [c]) = c := by simp [lasC]
theorem lasC_1 {d : List (Int × Int)} (h : d.length = 1) : (lasC d).1 = g1 d 0 ∧ (lasC d).2 = g2 d 0 := by
  match d, h with
  | [a], _ => exact ⟨rfl, rfl⟩
theorem lwS_inn {o : List Int} {i : Nat} {d : List (Int × Int)} (h : ¬ g2 sc i = -1) (hd : d = delL (frP W Hh (lwS W Hh l sc g o i)) (susL l (g1 sc i) (g2 sc i) g)) (h1 : d.length = 1) (hi : inB W Hh (lasC d).1 (lasC d).2 = true) : lwS W Hh l sc g o (i + 1) = (lwS W Hh l sc g o i).set (((lasC d).2 * W) + (lasC d).1).toNat 2 := by
  have hi := inB_iff.1 hi
  obtain ⟨e1, e2⟩ := lasC_1 h1
  rw [e1, e2] at hi ⊢
  subst hd
  exact lwS_set h ⟨h1, btw_iff.2 (by omega), btw_iff.2 (by omega)⟩
theorem lwS_out {o : List Int} {i : Nat} {d : List (Int × Int)} (h : ¬ g2 sc i = -1) (hd : d = delL (frP W Hh (lwS W Hh l sc g o i)) (susL l (g1 sc i) (g2 sc i) g)) (hi : ¬ (d.length = 1 ∧ inB W Hh (lasC d).1 (lasC d).2 = true)) : lwS W Hh l sc g o (i + 1) = lwS W Hh l sc g o i := by
  subst hd
  refine lwS_same h fun q => hi ⟨q.1, ?_⟩
  obtain ⟨e1, e2⟩ := lasC_1 q.1
  rw [e1, e2]
  have := btw_iff.1 q.2.1
  have := btw_iff.1 q.2.2
  exact inB_iff.2 (by omega)
theorem delL_not {p : Int × Int → Bool} {l : List (Int × Int)} {n : Nat} (h : n < l.length) (hp : p (g1 l n, g2 l n) = false) : delL p (l.take (n + 1)) = delL p (l.take n) ++ [(g1 l n, g2 l n)] := by
  rw [delL_step h, ← pr_eq h, if_neg (by rw [hp]; decide)]
theorem delL_yes {p : Int × Int → Bool} {l : List (Int × Int)} {n : Nat} (h : n < l.length) (hp : p (g1 l n, g2 l n) = true) : delL p (l.take (n + 1)) = delL p (l.take n) := by
  rw [delL_step h, ← pr_eq h, if_pos hp, List.append_nil]
open Go.RowKit
theorem rlearn_c (H : AHeap) (W : Int) (Hh : Int) (pp : AV) (xs : List Int) (s : AV) (l : List T6) (q : AV) (sc : List (Int × Int)) (g : Int) (hpp : Sl H 1 pp xs.length (ints .u8 xs)) (hs : Sl H 6 s l.length (r6 l)) (hq : Sl H 2 q sc.length (prs sc)) (hl : l.length ≤ 1000000000) (hsc : sc.length ≤ 1000000000) : ACalls Tryz.prog 26 [.agg [.int .i64 W, .int .i64 Hh, pp], s, q, .int .i64 g] H (fun v H' => v = .tup [.agg [.int .i64 (lnZ W Hh xs l sc g W), .int .i64 (lnZ W Hh xs l sc g Hh), .sl (some (H.length, 0)) ((lnX W Hh xs l sc g).length) none], .int .i64 (lnE W Hh xs l sc g)] ∧ H' = H ++ [.cells (ownG (lnX W Hh xs l sc g).length) 1 (ints .u8 (lnX W Hh xs l sc g))]) := by
  obtain ⟨bpp, opp, cpp, rfl, hbpp⟩ := hpp
  have hblpp := getElem?_lt hbpp
  have hb0pp := fun l => get_app (l := l) hbpp
  obtain ⟨bs, os, cs, rfl, hbs⟩ := hs
  have hbls := getElem?_lt hbs
  have hb0s := fun l => get_app (l := l) hbs
  obtain ⟨bq, oq, cq, rfl, hbq⟩ := hq
  have hblq := getElem?_lt hbq
  have hb0q := fun l => get_app (l := l) hbq
  (refine ACalls_pieces Tryz.func26 _ rfl (Nat.le_of_ble_eq_true (by kernel_rfl)) rfl ?_; intro hbel Q hQ hQ' c hc; unfold Tryz.f26 at hc; simp only [Option.some.injEq] at hc; subst hc; clear hQ')
  refine AW_step false try_mixed (by kernel_rfl) (fun F Hx => look F 1 = .sl (some (bs, 0)) l.length cs ∧ look F 2 = .sl (some (bq, 0)) sc.length cq ∧ look F 3 = .int .i64 g ∧ look F 4 = .ptr (some (H.length, 0)) ∧ look F 8 = .ptr (some (H.length + 1, 0)) ∧ look F 9 = .int .i64 0 ∧ Hx = H ++ [.cells true 0 [.int .i64 W, .int .i64 Hh, .sl (some (bpp, 0)) xs.length cpp], .cells true 0 [.int .i64 0, .int .i64 0, .sl none 0 (some 0)]]) ?_ ?_
  · skip
    have g'1 := (jn @hbpp (jn @hb0pp (jn @hbs (jn @hb0s (jn @hbq @hb0q)))))
    refine runTf g'1 ?_
    refine inv_of ?_
    exact absT
  rintro F Hx ⟨f1, f2, f3, f4, f5, f6, rfl⟩
  refine AW_step false try_mixed (by kernel_rfl) (fun F Hx => look F 1 = .sl (some (bs, 0)) l.length cs ∧ look F 2 = .sl (some (bq, 0)) sc.length cq ∧ look F 3 = .int .i64 g ∧ look F 4 = .ptr (some (H.length, 0)) ∧ look F 8 = .ptr (some (H.length + 1, 0)) ∧ look F 9 = .int .i64 0 ∧ look F 10 = .sl (some (H.length + 2, 0)) ((pvL W Hh xs l sc g).length) (capG (pvL W Hh xs l sc g).length) ∧ look F 11 = .int .i64 (pvE W Hh xs l sc g) ∧ Hx = H ++ [.cells true 0 [.int .i64 W, .int .i64 Hh, .sl (some (bpp, 0)) xs.length cpp], .cells true 0 [.int .i64 0, .int .i64 0, .sl none 0 (some 0)], .cells (ownG (pvL W Hh xs l sc g).length) 2 (prs (pvL W Hh xs l sc g))]) ?_ ?_
  · skip
    have g'2 := (jn @hbpp (jn @hb0pp (jn @hbs (jn @hb0s (jn @hbq (jn @hb0q (jn @f1 (jn @f2 (jn @f3 (jn @f4 (jn @f5 @f6)))))))))))
    refine runTf g'2 ?_
    refine call_v (by kernel_rfl) (rProven_c _ W Hh _ xs _ l _ sc g ⟨_, _, _, rfl, by first | exact hb0pp _ | exact hbpp⟩ ⟨_, _, _, rfl, by first | exact hb0s _ | exact hbs⟩ ⟨_, _, _, rfl, by first | exact hb0q _ | exact hbq⟩ (by first | omega | simp) (by first | omega | simp)) ?_
    refine runTf g'2 ?_
    refine inv_of ?_
    exact absTf (jn @f1 (jn @f2 (jn @f3 (jn @f4 (jn @f5 @f6)))))
  rintro F Hx ⟨f7, f8, f9, f10, f11, f12, f13, f14, rfl⟩
  refine AW_step false try_mixed (by kernel_rfl) (fun F Hx => ((pvE W Hh xs l sc g) != 0) = false ∧ look F 1 = .sl (some (bs, 0)) l.length cs ∧ look F 2 = .sl (some (bq, 0)) sc.length cq ∧ look F 3 = .int .i64 g ∧ look F 4 = .ptr (some (H.length, 0)) ∧ look F 8 = .ptr (some (H.length + 1, 0)) ∧ look F 9 = .int .i64 0 ∧ look F 10 = .sl (some (H.length + 2, 0)) ((pvL W Hh xs l sc g).length) (capG (pvL W Hh xs l sc g).length) ∧ Hx = H ++ [.cells true 0 [.int .i64 W, .int .i64 Hh, .sl (some (bpp, 0)) xs.length cpp], .cells true 0 [.int .i64 0, .int .i64 0, .sl none 0 (some 0)], .cells (ownG (pvL W Hh xs l sc g).length) 2 (prs (pvL W Hh xs l sc g))]) ?_ ?_
  · skip
    have g'3 := (jn @hbpp (jn @hb0pp (jn @hbs (jn @hb0s (jn @hbq (jn @hb0q (jn @f1 (jn @f2 (jn @f3 (jn @f4 (jn @f5 (jn @f6 (jn @f7 (jn @f8 (jn @f9 (jn @f10 (jn @f11 (jn @f12 (jn @f13 @f14)))))))))))))))))))
    refine runTf g'3 ?_
    refine cond_split (fun h15 => ?_) (fun h15 => ?_)
    · have h15d := bsT h15
      have h15n := bnT h15
      have hRf := pvE_f (by first | exact h15d | simpa using h15d)
      have hfinP := ln_1 hRf
      have hfinE : pvE W Hh xs l sc g = 1 := (pv_f hRf).1
      have g'4 := (jn @h15 (jn @h15n (jn @int_bne (jn @int_beq g'3))))
      refine runTf g'4 ?_
      refine hQ _ _ (end_byG (.inl rfl) hbel (x1 := .tup [.agg [.int .i64 0, .int .i64 0, .sl none 0 (some 0)], .int .i64 (pvE W Hh xs l sc g)]) (l2 := [.cells false 1 []]) (.tup [.agg [.int .i64 0, .int .i64 0, .sl (some (H.length, 0)) 0 none], .int .i64 (pvE W Hh xs l sc g)]) (resTf (jn @f1 (jn @f2 (jn @f3 (jn @f4 (jn @f5 (jn @f6 (jn @f7 (jn @f8 (jn @f9 (jn @f10 (jn @f11 (jn @f12 (jn @f13 @f14))))))))))))) Tryz.results26) [.cells false 1 []] rfl [3] (by decide) ⟨by first | (rw [hfinP.1, hfinP.2.1, hfinP.2.2.1, hfinP.2.2.2]; done) | (rw [hfinP.1, hfinP.2.1, hfinP.2.2.1, hfinP.2.2.2]; rfl) | (rw [hfinE, hfinP.1, hfinP.2.1, hfinP.2.2.1, hfinP.2.2.2]; rfl) | skip, by first | (rw [hfinP.2.1, hfinO]; done) | (rw [hfinP.2.1, hfinO]; rfl) | (rw [hfinP.2.1]; done) | (rw [hfinP.2.1]; rfl) | skip⟩ ?_)
      exact absW
    · have h15d := bsT h15
      have h15n := bnT h15
      have g'5 := (jn @h15 (jn @h15n (jn @int_bne (jn @int_beq g'3))))
      refine runTf g'5 ?_
      refine inv_of ?_
      exact absTf (jn @f1 (jn @f2 (jn @f3 (jn @f4 (jn @f5 (jn @f6 (jn @f7 (jn @f8 (jn @f9 (jn @f10 (jn @f11 (jn @f12 (jn @f13 @f14)))))))))))))
  rintro F Hx ⟨h16d, f17, f18, f19, f20, f21, f22, f23, rfl⟩
  have hR := pvE_t (by first | exact h16d | (simpa using h16d))
  obtain ⟨hV, hl0, hS, hsB, hg⟩ := rgtA_iff.1 hR
  have hVV := vld_iff.1 hV
  have hpp2 := hVV.pos
  have hWb : 1 ≤ W ∧ W ≤ 64 := ⟨hVV.w0, hVV.w1⟩
  have hHb : 1 ≤ Hh ∧ Hh ≤ 64 := ⟨hVV.h0, hVV.h1⟩
  have hx00 := (hVV.idx (show inB W Hh 0 0 = true from inB_iff.2 (by have := hVV.w0; have := hVV.h0; omega))).2.2.2.2.1
  have hx0 : 0 < xs.length := by omega
  have hx6 : xs.length ≤ 1000000 := by have h4 := hVV.len; have := Int.mul_le_mul hVV.w1 hVV.h1 (by have := hVV.h0; omega) (by decide); omega
  have hsc2 := scnB_iff.1 hsB
  have hAl := pvL_le (W := W) (Hh := Hh) (xs := xs) (l := l) (sc := sc) (g := g)
  have hA : ∀ c ∈ (pvL W Hh xs l sc g), inB W Hh c.1 c.2 = true := fun c hc => pvL_in hc
  have hsfz : (xs.length == 0) = false := beq_eq_false_iff_ne.2 (by omega)
  have hsfd : decide (0 < xs.length) = true := decide_eq_true hx0
  refine AW_special false try_mixed [[0, 1, 2, 3, 4, 5, 6, 7, 8, 9, 10], [0, 1, 2, 3, 4, 5, 6, 9, 7, 8, 10], [0, 1, 2, 3, 5, 6, 9, 4, 7, 8, 10]] (by kernel_rfl) (fun F2 H2 => F2 = [(1, .sl (some (bs, 0)) l.length cs), (2, .sl (some (bq, 0)) sc.length cq), (3, .int .i64 g), (4, .ptr (some (H.length, 0))), (8, .ptr (some (H.length + 1, 0))), (9, .int .i64 0), (10, .sl (some (H.length + 2, 0)) ((pvL W Hh xs l sc g).length) (capG (pvL W Hh xs l sc g).length)), (12, .ptr (some (H.length + 4, 0)))] ∧ H2 = H ++ [.cells true 0 [.int .i64 W, .int .i64 Hh, .sl (some (bpp, 0)) xs.length cpp], .cells true 0 [.int .i64 0, .int .i64 0, .sl none 0 (some 0)], .cells (ownG (pvL W Hh xs l sc g).length) 2 (prs (pvL W Hh xs l sc g)), .cells true 1 (ints .u8 xs), .cells true 0 [.int .i64 W, .int .i64 Hh, .sl (some (H.length + 3, 0)) xs.length none]]) ?_ ?_
  · refine reps_cons ?_ (reps_cons ?_ (reps_cons ?_ (reps_nil))) <;> intro J hJ
    · skip
      have g'6 := (jn @hbpp (jn @hb0pp (jn @hbs (jn @hb0s (jn @hbq (jn @hb0q (jn @f1 (jn @f2 (jn @f3 (jn @f4 (jn @f5 (jn @f6 (jn @f7 (jn @f8 (jn @f9 (jn @f10 (jn @f11 (jn @f12 (jn @f13 (jn @f14 (jn @f17 (jn @f18 (jn @f19 (jn @f20 (jn @f21 (jn @f22 (jn @f23 (jn @h16d (jn @hsfz (jn @hsfd (jn @ints_len (jn @ints_ones @ints_all))))))))))))))))))))))))))))))))
      refine runDf g'6 ?_
      refine inv_of (hJ _ _ ⟨_, _, _, ⟨rfl, rfl⟩, Abs.byG hbel [] rfl [0, 1, 2, 4, 5] (by decide) ?_⟩)
      exact absRf (jn @f1 (jn @f2 (jn @f3 (jn @f4 (jn @f5 (jn @f6 (jn @f7 (jn @f8 (jn @f9 (jn @f10 (jn @f11 (jn @f12 (jn @f13 (jn @f14 (jn @f17 (jn @f18 (jn @f19 (jn @f20 (jn @f21 (jn @f22 @f23))))))))))))))))))))
    · skip
      have g'7 := (jn @hbpp (jn @hb0pp (jn @hbs (jn @hb0s (jn @hbq (jn @hb0q (jn @f1 (jn @f2 (jn @f3 (jn @f4 (jn @f5 (jn @f6 (jn @f7 (jn @f8 (jn @f9 (jn @f10 (jn @f11 (jn @f12 (jn @f13 (jn @f14 (jn @f17 (jn @f18 (jn @f19 (jn @f20 (jn @f21 (jn @f22 (jn @f23 (jn @h16d (jn @hsfz (jn @hsfd (jn @ints_len (jn @ints_ones @ints_all))))))))))))))))))))))))))))))))
      refine runDf g'7 ?_
      refine inv_of (hJ _ _ ⟨_, _, _, ⟨rfl, rfl⟩, Abs.byG hbel [] rfl [0, 1, 2, 5, 4] (by decide) ?_⟩)
      exact absRf (jn @f1 (jn @f2 (jn @f3 (jn @f4 (jn @f5 (jn @f6 (jn @f7 (jn @f8 (jn @f9 (jn @f10 (jn @f11 (jn @f12 (jn @f13 (jn @f14 (jn @f17 (jn @f18 (jn @f19 (jn @f20 (jn @f21 (jn @f22 @f23))))))))))))))))))))
    · skip
      have g'8 := (jn @hbpp (jn @hb0pp (jn @hbs (jn @hb0s (jn @hbq (jn @hb0q (jn @f1 (jn @f2 (jn @f3 (jn @f4 (jn @f5 (jn @f6 (jn @f7 (jn @f8 (jn @f9 (jn @f10 (jn @f11 (jn @f12 (jn @f13 (jn @f14 (jn @f17 (jn @f18 (jn @f19 (jn @f20 (jn @f21 (jn @f22 (jn @f23 (jn @h16d (jn @hsfz (jn @hsfd (jn @ints_len (jn @ints_ones @ints_all))))))))))))))))))))))))))))))))
      refine runDf g'8 ?_
      refine inv_of (hJ _ _ ⟨_, _, _, ⟨rfl, rfl⟩, Abs.byG hbel [] rfl [0, 1, 2, 5, 3] (by decide) ?_⟩)
      exact absRf (jn @f1 (jn @f2 (jn @f3 (jn @f4 (jn @f5 (jn @f6 (jn @f7 (jn @f8 (jn @f9 (jn @f10 (jn @f11 (jn @f12 (jn @f13 (jn @f14 (jn @f17 (jn @f18 (jn @f19 (jn @f20 (jn @f21 (jn @f22 @f23))))))))))))))))))))
  rintro F2 H2 ⟨rfl, rfl⟩
  refine AW_fin false try_mixed (by kernel_rfl) ?_
  have g'9 := (jn @hbpp (jn @hb0pp (jn @hbs (jn @hb0s (jn @hbq (jn @hb0q (jn @h16d (jn @hsfz (jn @hsfd (jn @prs_len (jn @prs_one (jn @ints_len @ints_ones))))))))))))
  refine runTf g'9 ?_
  refine go_loop try_mixed (by kernel_rfl) (fun k F Hx => ∃ i : Nat, i + k = (pvL W Hh xs l sc g).length ∧ lrnR W Hh xs (pvL W Hh xs l sc g) xs = lrnR W Hh xs ((pvL W Hh xs l sc g).drop i) (lfS W (pvL W Hh xs l sc g) xs i) ∧ F = [(1, .sl (some (bs, 0)) l.length cs), (2, .sl (some (bq, 0)) sc.length cq), (3, .int .i64 g), (4, .ptr (some (H.length, 0))), (8, .ptr (some (H.length + 1, 0))), (10, .sl (some (H.length + 2, 0)) ((pvL W Hh xs l sc g).length) (capG (pvL W Hh xs l sc g).length)), (12, .ptr (some (H.length + 4, 0))), (13, .int .i64 ((i : Nat) : Int))] ∧ Hx = H ++ [.cells true 0 [.int .i64 W, .int .i64 Hh, .sl (some (bpp, 0)) xs.length cpp], .cells true 0 [.int .i64 0, .int .i64 0, .sl none 0 (some 0)], .cells (ownG (pvL W Hh xs l sc g).length) 2 (prs (pvL W Hh xs l sc g)), .cells true 1 (ints .u8 (lfS W (pvL W Hh xs l sc g) xs i)), .cells true 0 [.int .i64 W, .int .i64 Hh, .sl (some (H.length + 3, 0)) ((lfS W (pvL W Hh xs l sc g) xs i).length) none]]) ((pvL W Hh xs l sc g).length) ?_ ?_
  · refine ⟨_, _, _, ⟨0, by omega, rfl, rfl, rfl⟩, Abs.byG hbel [] rfl [0, 1, 2, 3, 4] (by decide) ?_⟩
    exact absRf @lfS.eq_1
  · rintro k0 F Hx ⟨i, hm0, hrem, rfl, rfl⟩ J0 hJ0
    refine runTf g'9 ?_
    refine cond_split (fun h24 => ?_) (fun h24 => ?_)
    · have h24d := bsT h24
      have hlt : i < (pvL W Hh xs l sc g).length := by omega
      have hfv := lfS_vld (W := W) (A := (pvL W Hh xs l sc g)) hV i
      obtain ⟨j1, j2, j3, j4, j5, -⟩ := (vld_iff.1 hfv).idx (gin_mem hlt hA)
      have q25 := prs_load (l := pvL W Hh xs l sc g) (j := i) (by omega)
      have g'10 := (jn @h24 (jn @h24d (jn @q25 g'9)))
      refine runTf g'10 ?_
      refine call_d (by kernel_rfl) (at_c (x := (g1 (pvL W Hh xs l sc g) i)) (y := (g2 (pvL W Hh xs l sc g) i)) (vld_iff.1 hV) (by first | exact hb0pp _ | exact hbpp) rfl) ?_
      refine runTf g'10 ?_
      refine cond_split (fun h26 => ?_) (fun h26 => ?_)
      · have h26d := bsT h26
        have h26n := bnT h26
        have hfinP := ln_11 hR ((lnO_ref hR).trans (by rw [hrem, lrnR_step hlt hA, if_pos (by simpa using h26d)]; rfl))
        have g'11 := (jn @h26 (jn @h26n (jn @int_bne (jn @int_beq g'10))))
        refine runTf g'11 ?_
        refine hQ _ _ (end_byG (.inl rfl) hbel (x1 := .tup [.agg [.int .i64 0, .int .i64 0, .sl none 0 (some 0)], .int .i64 11]) (l2 := [.cells false 1 []]) (.tup [.agg [.int .i64 0, .int .i64 0, .sl (some (H.length, 0)) 0 none], .int .i64 11]) (resT Tryz.results26) [.cells false 1 []] rfl [5] (by decide) ⟨by first | (rw [hfinP.1, hfinP.2.1, hfinP.2.2.1, hfinP.2.2.2]; done) | (rw [hfinP.1, hfinP.2.1, hfinP.2.2.1, hfinP.2.2.2]; rfl) | (rw [hfinE, hfinP.1, hfinP.2.1, hfinP.2.2.1, hfinP.2.2.2]; rfl) | skip, by first | (rw [hfinP.2.1, hfinO]; done) | (rw [hfinP.2.1, hfinO]; rfl) | (rw [hfinP.2.1]; done) | (rw [hfinP.2.1]; rfl) | skip⟩ ?_)
        exact absW
      · have h26d := bsT h26
        have h26n := bnT h26
        have hne : ¬ atI W Hh xs (g1 (pvL W Hh xs l sc g) i) (g2 (pvL W Hh xs l sc g) i) = 2 := by simpa using h26d
        have q27 := prs_at1 (l := pvL W Hh xs l sc g) (j := i) (by omega)
        have q28 := prs_at0 (l := pvL W Hh xs l sc g) (j := i) (by omega)
        have g'12 := (jn @h26 (jn @h26n (jn @int_bne (jn @int_beq (jn @q27 (jn @q28 (jn @ints_set1 (jn @List.length_set.{0} g'10))))))))
        refine runTf g'12 ?_
        refine hJ0 _ _ ⟨k0 - 1, by omega, _, _, _, ⟨i + 1, by omega, hrem.trans ((lrnR_step hlt hA).trans (if_neg hne)), rfl, rfl⟩, Abs.byG hbel [] rfl [0, 1, 2, 3, 4] (by decide) ?_⟩
        exact absRf (jn @lfS.eq_2 @List.length_set.{0})
    · have h24d := bsT h24
      obtain rfl : i = (pvL W Hh xs l sc g).length := by omega
      rw [List.drop_length] at hrem
      have g'13 := (jn @h24 (jn @h24d g'9))
      refine runTf g'13 ?_
      refine go_loop try_mixed (by kernel_rfl) (fun k F Hx => ∃ i : Nat, i + k = sc.length ∧ (tauB l = true ∨ i = 0) ∧ (∀ _ : tauB l = true, lnO W Hh xs l sc g = lrnW W Hh (echL l (sc.drop i) g) (lwS W Hh l sc g (lfS W (pvL W Hh xs l sc g) xs (pvL W Hh xs l sc g).length) i)) ∧ F = [(1, .sl (some (bs, 0)) l.length cs), (2, .sl (some (bq, 0)) sc.length cq), (3, .int .i64 g), (4, .ptr (some (H.length, 0))), (8, .ptr (some (H.length + 1, 0))), (12, .ptr (some (H.length + 3, 0))), (14, .int .i64 ((i : Nat) : Int))] ∧ Hx = H ++ [.cells true 0 [.int .i64 W, .int .i64 Hh, .sl (some (bpp, 0)) xs.length cpp], .cells true 0 [.int .i64 0, .int .i64 0, .sl none 0 (some 0)], .cells true 1 (ints .u8 (lwS W Hh l sc g (lfS W (pvL W Hh xs l sc g) xs (pvL W Hh xs l sc g).length) i)), .cells true 0 [.int .i64 W, .int .i64 Hh, .sl (some (H.length + 2, 0)) ((lwS W Hh l sc g (lfS W (pvL W Hh xs l sc g) xs (pvL W Hh xs l sc g).length) i).length) none]]) (sc.length) ?_ ?_
      · refine ⟨_, _, _, ⟨0, by omega, .inr rfl, fun h => (lnO_ref hR).trans (by rw [hrem]; exact if_pos h), rfl, rfl⟩, Abs.byG hbel [] rfl [0, 1, 3, 4] (by decide) ?_⟩
        exact absRf @lwS.eq_1
      · rintro k1 F Hx ⟨i, hm1, hor, hrem2, rfl, rfl⟩ J1 hJ1
        refine runTf g'13 ?_
        refine gd_split (fun h29 => ?_) (fun h29 => ?_)
        · have h29d := bsT h29
          have hlt : i < sc.length := by omega
          have hbe := hsc2.2 _ (List.getElem_mem hlt)
          rw [← pr_eq hlt] at hbe
          have hbi := beaB_iff.1 hbe
          have hss : (ssL W Hh xs l (g1 sc i) (g2 sc i) g) = (susL l (g1 sc i) (g2 sc i) g) := ss_bm hR hbe
          have hwv := lwS_vld (W := W) (Hh := Hh) (l := l) (sc := sc) (g := g) (lfS_vld (W := W) (A := (pvL W Hh xs l sc g)) hV (pvL W Hh xs l sc g).length) i
          have hsl := ssL_le (W := W) (Hh := Hh) (xs := xs) (l := l) (m := g1 sc i) (r := g2 sc i) (g := g)
          have hds : (delL (frP W Hh (lwS W Hh l sc g (lfS W (pvL W Hh xs l sc g) xs (pvL W Hh xs l sc g).length) i)) (ssL W Hh xs l (g1 sc i) (g2 sc i) g)) = (delL (frP W Hh (lwS W Hh l sc g (lfS W (pvL W Hh xs l sc g) xs (pvL W Hh xs l sc g).length) i)) (susL l (g1 sc i) (g2 sc i) g)) := by rw [hss]
          have g'14 := (jn @h29 (jn @h29d g'13))
          refine runTf g'14 ?_
          refine call_v (by kernel_rfl) (rsmall_c _ _ l ⟨_, _, _, rfl, by first | exact hb0s _ | exact hbs⟩ (by assumption)) ?_
          refine runTf g'14 ?_
          refine cond_split (fun h30 => ?_) (fun h30 => ?_)
          · have h30d := bsT h30
            have htau := h30d
            have q31 := prs_at1 (l := sc) (j := i) (by omega)
            have g'15 := (jn @h30 (jn @h30d (jn @q31 g'14)))
            refine runTf g'15 ?_
            refine cond_split (fun h32 => ?_) (fun h32 => ?_)
            · have h32d := bsT h32
              have hr1 : g2 sc i = -1 := by omega
              have hst := lwS_skip (W := W) (Hh := Hh) (l := l) (g := g) (o := (lfS W (pvL W Hh xs l sc g) xs (pvL W Hh xs l sc g).length)) hr1
              have hnx := lwS_next (W := W) (Hh := Hh) (l := l) (g := g) (o := (lfS W (pvL W Hh xs l sc g) xs (pvL W Hh xs l sc g).length)) hlt (.inl hr1)
              have g'16 := (jn @h32 (jn @h32d g'15))
              refine runTf g'16 ?_
              refine hJ1 _ _ ⟨k1 - 1, by omega, _, _, _, ⟨i + 1, by omega, .inl htau, fun h => (hrem2 h).trans hnx, rfl, rfl⟩, Abs.byG hbel [] rfl [0, 1, 2, 3] (by decide) ?_⟩
              exact absRf (jn @hst @List.length_set.{0})
            · have h32d := bsT h32
              have hr1 : ¬ g2 sc i = -1 := by omega
              have q33 := prs_load (l := sc) (j := i) (by omega)
              have g'17 := (jn @h32 (jn @h32d (jn @q33 g'15)))
              refine runTf g'17 ?_
              refine call_x (by kernel_rfl) (by simp) (rSuspects_c _ W Hh _ xs _ l (g1 sc i) (g2 sc i) g ⟨_, _, _, rfl, by first | exact hb0pp _ | exact hbpp⟩ ⟨_, _, _, rfl, by first | exact hb0s _ | exact hbs⟩ (by first | omega | simp)) ?_
              refine runTf g'17 ?_
              refine go_loop try_mixed (by kernel_rfl) (fun k F Hx => ∃ n : Nat, n + k = (ssL W Hh xs l (g1 sc i) (g2 sc i) g).length ∧ F = [(1, .sl (some (bs, 0)) l.length cs), (2, .sl (some (bq, 0)) sc.length cq), (3, .int .i64 g), (4, .ptr (some (H.length, 0))), (8, .ptr (some (H.length + 1, 0))), (12, .ptr (some (H.length + 3, 0))), (14, .int .i64 ((i : Nat) : Int)), (15, .sl (some (H.length + 4, 0)) ((ssL W Hh xs l (g1 sc i) (g2 sc i) g).length) (capG (ssL W Hh xs l (g1 sc i) (g2 sc i) g).length)), (17, .int .i64 (((delL (frP W Hh (lwS W Hh l sc g (lfS W (pvL W Hh xs l sc g) xs (pvL W Hh xs l sc g).length) i)) ((ssL W Hh xs l (g1 sc i) (g2 sc i) g).take n)).length : Nat) : Int)), (18, .ptr (some (H.length + 5, 0))), (19, .int .i64 ((n : Nat) : Int))] ∧ Hx = H ++ [.cells true 0 [.int .i64 W, .int .i64 Hh, .sl (some (bpp, 0)) xs.length cpp], .cells true 0 [.int .i64 0, .int .i64 0, .sl none 0 (some 0)], .cells true 1 (ints .u8 (lwS W Hh l sc g (lfS W (pvL W Hh xs l sc g) xs (pvL W Hh xs l sc g).length) i)), .cells true 0 [.int .i64 W, .int .i64 Hh, .sl (some (H.length + 2, 0)) ((lwS W Hh l sc g (lfS W (pvL W Hh xs l sc g) xs (pvL W Hh xs l sc g).length) i).length) none], .cells (ownG (ssL W Hh xs l (g1 sc i) (g2 sc i) g).length) 2 (prs (ssL W Hh xs l (g1 sc i) (g2 sc i) g)), .cells true 0 [.int .i64 ((lasC (delL (frP W Hh (lwS W Hh l sc g (lfS W (pvL W Hh xs l sc g) xs (pvL W Hh xs l sc g).length) i)) ((ssL W Hh xs l (g1 sc i) (g2 sc i) g).take n))).1), .int .i64 ((lasC (delL (frP W Hh (lwS W Hh l sc g (lfS W (pvL W Hh xs l sc g) xs (pvL W Hh xs l sc g).length) i)) ((ssL W Hh xs l (g1 sc i) (g2 sc i) g).take n))).2)]]) ((ssL W Hh xs l (g1 sc i) (g2 sc i) g).length) ?_ ?_
              · refine ⟨_, _, _, ⟨0, by omega, rfl, rfl⟩, Abs.byG hbel [] rfl [0, 1, 2, 3, 4, 5] (by decide) ?_⟩
                exact absRf (jn @List.take_zero.{0} (jn @delL_nil @lasC_0))
              · rintro k2 F Hx ⟨n, hm2, rfl, rfl⟩ J2 hJ2
                refine runTf g'17 ?_
                refine cond_split (fun h34 => ?_) (fun h34 => ?_)
                · have h34d := bsT h34
                  have hnt : n < (ssL W Hh xs l (g1 sc i) (g2 sc i) g).length := by omega
                  have hdk := delL_tk (p := frP W Hh (lwS W Hh l sc g (lfS W (pvL W Hh xs l sc g) xs (pvL W Hh xs l sc g).length) i)) (l := (ssL W Hh xs l (g1 sc i) (g2 sc i) g)) (j := n) (by omega)
                  have q35 := prs_load (l := ssL W Hh xs l (g1 sc i) (g2 sc i) g) (j := n) (by omega)
                  have g'18 := (jn @h34 (jn @h34d (jn @q35 g'17)))
                  refine runTf g'18 ?_
                  refine call_d (by kernel_rfl) (at_c (x := (g1 (ssL W Hh xs l (g1 sc i) (g2 sc i) g) n)) (y := (g2 (ssL W Hh xs l (g1 sc i) (g2 sc i) g) n)) (vld_iff.1 hwv) (by first | (rw [get_newk]; rfl) | (rw [get_new0]; rfl)) rfl) ?_
                  refine runTf g'18 ?_
                  refine cond_split (fun h36 => ?_) (fun h36 => ?_)
                  · have h36d := bsT h36
                    have h36n := bnT h36
                    have hst2 := delL_not (p := frP W Hh (lwS W Hh l sc g (lfS W (pvL W Hh xs l sc g) xs (pvL W Hh xs l sc g).length) i)) hnt (show (atI W Hh (lwS W Hh l sc g (lfS W (pvL W Hh xs l sc g) xs (pvL W Hh xs l sc g).length) i) (g1 (ssL W Hh xs l (g1 sc i) (g2 sc i) g) n) (g2 (ssL W Hh xs l (g1 sc i) (g2 sc i) g) n) == 1) = false from by simpa using h36d)
                    have q37 := prs_load (l := ssL W Hh xs l (g1 sc i) (g2 sc i) g) (j := n) (by omega)
                    have g'19 := (jn @h36 (jn @h36n (jn @int_bne (jn @int_beq (jn @q37 g'18)))))
                    refine runTf g'19 ?_
                    refine hJ2 _ _ ⟨k2 - 1, by omega, _, _, _, ⟨n + 1, by omega, rfl, rfl⟩, Abs.byG hbel [] rfl [0, 1, 2, 3, 4, 5] (by decide) ?_⟩
                    exact absRf (jn @hst2 (jn @lasC_s (jn @Int.natCast_add @Int.natCast_one)))
                  · have h36d := bsT h36
                    have h36n := bnT h36
                    have hst2 := delL_yes (p := frP W Hh (lwS W Hh l sc g (lfS W (pvL W Hh xs l sc g) xs (pvL W Hh xs l sc g).length) i)) hnt (show (atI W Hh (lwS W Hh l sc g (lfS W (pvL W Hh xs l sc g) xs (pvL W Hh xs l sc g).length) i) (g1 (ssL W Hh xs l (g1 sc i) (g2 sc i) g) n) (g2 (ssL W Hh xs l (g1 sc i) (g2 sc i) g) n) == 1) = true from by simpa using h36d)
                    have g'20 := (jn @h36 (jn @h36n (jn @int_bne (jn @int_beq g'18))))
                    refine runTf g'20 ?_
                    refine hJ2 _ _ ⟨k2 - 1, by omega, _, _, _, ⟨n + 1, by omega, rfl, rfl⟩, Abs.byG hbel [] rfl [0, 1, 2, 3, 4, 5] (by decide) ?_⟩
                    exact absRf (jn @hst2 (jn @lasC_s (jn @Int.natCast_add @Int.natCast_one)))
                · have h34d := bsT h34
                  obtain rfl : n = (ssL W Hh xs l (g1 sc i) (g2 sc i) g).length := by omega
                  have hsft : (ssL W Hh xs l (g1 sc i) (g2 sc i) g).take (ssL W Hh xs l (g1 sc i) (g2 sc i) g).length = (ssL W Hh xs l (g1 sc i) (g2 sc i) g) := List.take_length
                  have g'21 := (jn @h34 (jn @h34d (jn @hsft g'17)))
                  refine runTf g'21 ?_
                  refine cond_split (fun h38 => ?_) (fun h38 => ?_)
                  · have h38d := bsT h38
                    have h38n := bnT h38
                    have hd0 : (delL (frP W Hh (lwS W Hh l sc g (lfS W (pvL W Hh xs l sc g) xs (pvL W Hh xs l sc g).length) i)) (ssL W Hh xs l (g1 sc i) (g2 sc i) g)).length = 0 := by have q := h38d; first | omega | (rw [beq_iff_eq] at q; omega)
                    rw [hds] at hd0
                    have hfinP := ln_11 hR ((hrem2 htau).trans (lwS_bad hlt hr1 hd0))
                    have g'22 := (jn @h38 (jn @h38n (jn @int_bne (jn @int_beq g'21))))
                    refine runTf g'22 ?_
                    refine hQ _ _ (end_byG (.inl rfl) hbel (x1 := .tup [.agg [.int .i64 0, .int .i64 0, .sl none 0 (some 0)], .int .i64 11]) (l2 := [.cells false 1 []]) (.tup [.agg [.int .i64 0, .int .i64 0, .sl (some (H.length, 0)) 0 none], .int .i64 11]) (resT Tryz.results26) [.cells false 1 []] rfl [6] (by decide) ⟨by first | (rw [hfinP.1, hfinP.2.1, hfinP.2.2.1, hfinP.2.2.2]; done) | (rw [hfinP.1, hfinP.2.1, hfinP.2.2.1, hfinP.2.2.2]; rfl) | (rw [hfinE, hfinP.1, hfinP.2.1, hfinP.2.2.1, hfinP.2.2.2]; rfl) | skip, by first | (rw [hfinP.2.1, hfinO]; done) | (rw [hfinP.2.1, hfinO]; rfl) | (rw [hfinP.2.1]; done) | (rw [hfinP.2.1]; rfl) | skip⟩ ?_)
                    exact absW
                  · have h38d := bsT h38
                    have h38n := bnT h38
                    have hd0 : ¬ (delL (frP W Hh (lwS W Hh l sc g (lfS W (pvL W Hh xs l sc g) xs (pvL W Hh xs l sc g).length) i)) (ssL W Hh xs l (g1 sc i) (g2 sc i) g)).length = 0 := by have q := h38d; first | omega | (rw [beq_eq_false_iff_ne] at q; omega)
                    rw [hds] at hd0
                    have hnx := lwS_next (W := W) (Hh := Hh) (l := l) (g := g) (o := (lfS W (pvL W Hh xs l sc g) xs (pvL W Hh xs l sc g).length)) hlt (.inr hd0)
                    have g'23 := (jn @h38 (jn @h38n (jn @int_bne (jn @int_beq g'21))))
                    refine runTf g'23 ?_
                    refine gd_split (fun h39 => ?_) (fun h39 => ?_)
                    · have h39d := bsT h39
                      have h39n := bnT h39
                      have hd1 : (delL (frP W Hh (lwS W Hh l sc g (lfS W (pvL W Hh xs l sc g) xs (pvL W Hh xs l sc g).length) i)) (ssL W Hh xs l (g1 sc i) (g2 sc i) g)).length = 1 := by have q := h39d; first | omega | (rw [beq_iff_eq] at q; omega)
                      have g'24 := (jn @h39 (jn @h39n g'23))
                      refine runTf g'24 ?_
                      refine call_v (by kernel_rfl) (rinside_c (W := W) (Hh := Hh) (x := ((lasC (delL (frP W Hh (lwS W Hh l sc g (lfS W (pvL W Hh xs l sc g) xs (pvL W Hh xs l sc g).length) i)) (ssL W Hh xs l (g1 sc i) (g2 sc i) g))).1)) (y := ((lasC (delL (frP W Hh (lwS W Hh l sc g (lfS W (pvL W Hh xs l sc g) xs (pvL W Hh xs l sc g).length) i)) (ssL W Hh xs l (g1 sc i) (g2 sc i) g))).2))) ?_
                      refine runTf g'24 ?_
                      refine cond_split (fun h40 => ?_) (fun h40 => ?_)
                      · have h40d := bsT h40
                        have hin := h40d
                        have hst := lwS_inn (o := (lfS W (pvL W Hh xs l sc g) xs (pvL W Hh xs l sc g).length)) hr1 hds hd1 hin
                        obtain ⟨j1, j2, j3, j4, j5, -⟩ := (vld_iff.1 hwv).idx hin
                        have g'25 := (jn @h40 (jn @h40d (jn @ints_set1 (jn @List.length_set.{0} g'24))))
                        refine runTf g'25 ?_
                        refine hJ1 _ _ ⟨k1 - 1, by omega, _, _, _, ⟨i + 1, by omega, .inl htau, fun h => (hrem2 h).trans hnx, rfl, rfl⟩, Abs.byG hbel [] rfl [0, 1, 2, 3] (by decide) ?_⟩
                        exact absRf (jn @hst @List.length_set.{0})
                      · have h40d := bsT h40
                        have hst := lwS_out (o := (lfS W (pvL W Hh xs l sc g) xs (pvL W Hh xs l sc g).length)) hr1 hds (fun q => by rw [h40d] at q; exact absurd q.2 (by decide))
                        have g'26 := (jn @h40 (jn @h40d g'24))
                        refine runTf g'26 ?_
                        refine hJ1 _ _ ⟨k1 - 1, by omega, _, _, _, ⟨i + 1, by omega, .inl htau, fun h => (hrem2 h).trans hnx, rfl, rfl⟩, Abs.byG hbel [] rfl [0, 1, 2, 3] (by decide) ?_⟩
                        exact absRf (jn @hst @List.length_set.{0})
                    · have h39d := bsT h39
                      have h39n := bnT h39
                      have hd1 : ¬ (delL (frP W Hh (lwS W Hh l sc g (lfS W (pvL W Hh xs l sc g) xs (pvL W Hh xs l sc g).length) i)) (ssL W Hh xs l (g1 sc i) (g2 sc i) g)).length = 1 := by have q := h39d; first | omega | (rw [beq_eq_false_iff_ne] at q; omega)
                      have hst := lwS_out (o := (lfS W (pvL W Hh xs l sc g) xs (pvL W Hh xs l sc g).length)) hr1 hds (fun q => hd1 q.1)
                      have g'27 := (jn @h39 (jn @h39n g'23))
                      refine runTf g'27 ?_
                      refine hJ1 _ _ ⟨k1 - 1, by omega, _, _, _, ⟨i + 1, by omega, .inl htau, fun h => (hrem2 h).trans hnx, rfl, rfl⟩, Abs.byG hbel [] rfl [0, 1, 2, 3] (by decide) ?_⟩
                      exact absRf (jn @hst @List.length_set.{0})
          · have h30d := bsT h30
            have htau := h30d
            have hi0 : i = 0 := by rcases hor with h | h; rw [h] at htau; cases htau; exact h
            have hfinP := ln_0 hR (show lnO W Hh xs l sc g = some (lwS W Hh l sc g (lfS W (pvL W Hh xs l sc g) xs (pvL W Hh xs l sc g).length) i) from by rw [hi0]; exact (lnO_ref hR).trans (by rw [hrem]; exact if_neg (by rw [htau]; decide)))
            have hfinO : ownG (lwS W Hh l sc g (lfS W (pvL W Hh xs l sc g) xs (pvL W Hh xs l sc g).length) i).length = true := ownG_p (by have := vld_pos hwv; omega)
            have g'28 := (jn @h30 (jn @h30d g'14))
            refine runTf g'28 ?_
            refine hQ _ _ (end_byG (.inl rfl) hbel (x1 := .tup [.agg [.int .i64 W, .int .i64 Hh, .sl (some (H.length + 2, 0)) ((lwS W Hh l sc g (lfS W (pvL W Hh xs l sc g) xs (pvL W Hh xs l sc g).length) i).length) none], .int .i64 0]) (l2 := [.cells true 1 (ints .u8 (lwS W Hh l sc g (lfS W (pvL W Hh xs l sc g) xs (pvL W Hh xs l sc g).length) i))]) (.tup [.agg [.int .i64 W, .int .i64 Hh, .sl (some (H.length, 0)) ((lwS W Hh l sc g (lfS W (pvL W Hh xs l sc g) xs (pvL W Hh xs l sc g).length) i).length) none], .int .i64 0]) (resT Tryz.results26) [] rfl [2] (by decide) ⟨by first | (rw [hfinP.1, hfinP.2.1, hfinP.2.2.1, hfinP.2.2.2]; done) | (rw [hfinP.1, hfinP.2.1, hfinP.2.2.1, hfinP.2.2.2]; rfl) | (rw [hfinE, hfinP.1, hfinP.2.1, hfinP.2.2.1, hfinP.2.2.2]; rfl) | skip, by first | (rw [hfinP.2.1, hfinO]; done) | (rw [hfinP.2.1, hfinO]; rfl) | (rw [hfinP.2.1]; done) | (rw [hfinP.2.1]; rfl) | skip⟩ ?_)
            exact absW
        · have h29d := bsT h29
          obtain rfl : i = sc.length := by omega
          have hfinO : ownG (lwS W Hh l sc g (lfS W (pvL W Hh xs l sc g) xs (pvL W Hh xs l sc g).length) sc.length).length = true := ownG_p (by have := vld_pos (lwS_vld (W := W) (Hh := Hh) (l := l) (sc := sc) (g := g) (lfS_vld (W := W) (A := (pvL W Hh xs l sc g)) hV (pvL W Hh xs l sc g).length) sc.length); omega)
          have hfinP := ln_0 hR (show lnO W Hh xs l sc g = some (lwS W Hh l sc g (lfS W (pvL W Hh xs l sc g) xs (pvL W Hh xs l sc g).length) sc.length) from by
            rcases hor with h | h
            · rw [hrem2 h, List.drop_length]; rfl
            · cases ht : tauB l
              · rw [h]; exact (lnO_ref hR).trans (by rw [hrem]; exact if_neg (by rw [ht]; decide))
              · rw [hrem2 ht, List.drop_length]; rfl)
          have g'29 := (jn @h29 (jn @h29d g'13))
          refine runTf g'29 ?_
          refine hQ _ _ (end_byG (.inl rfl) hbel (x1 := .tup [.agg [.int .i64 W, .int .i64 Hh, .sl (some (H.length + 2, 0)) ((lwS W Hh l sc g (lfS W (pvL W Hh xs l sc g) xs (pvL W Hh xs l sc g).length) sc.length).length) none], .int .i64 0]) (l2 := [.cells true 1 (ints .u8 (lwS W Hh l sc g (lfS W (pvL W Hh xs l sc g) xs (pvL W Hh xs l sc g).length) sc.length))]) (.tup [.agg [.int .i64 W, .int .i64 Hh, .sl (some (H.length, 0)) ((lwS W Hh l sc g (lfS W (pvL W Hh xs l sc g) xs (pvL W Hh xs l sc g).length) sc.length).length) none], .int .i64 0]) (resT Tryz.results26) [] rfl [2] (by decide) ⟨by first | (rw [hfinP.1, hfinP.2.1, hfinP.2.2.1, hfinP.2.2.2]; done) | (rw [hfinP.1, hfinP.2.1, hfinP.2.2.1, hfinP.2.2.2]; rfl) | (rw [hfinE, hfinP.1, hfinP.2.1, hfinP.2.2.1, hfinP.2.2.2]; rfl) | skip, by first | (rw [hfinP.2.1, hfinO]; done) | (rw [hfinP.2.1, hfinO]; rfl) | (rw [hfinP.2.1]; done) | (rw [hfinP.2.1]; rfl) | skip⟩ ?_)
          exact absW
end Go.Proofs.YteieacinbfimlaaGreat
