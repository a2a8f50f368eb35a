/- Parts of the proof: walks and plain facts. Conditions: as each theorem states. -/
import Derived.Test.YteieacinbfimlaaGreatG3
import Derived.Test.YteieacinbfimlaaGreatG2
import Derived.Deep.RegionHeld3
namespace Go.Proofs.YteieacinbfimlaaGreat
set_option linter.unusedSimpArgs false
set_option linter.unusedVariables false
open Go.RowKit
set_option maxHeartbeats 4000000
set_option maxRecDepth 100000
def mkV (b : Bool) (n : Int) : Int := if b = true then n else 0
def thO (px py vx vy vd x0 y0 x1 y1 : Int) : Bool := thG px py vx vy vd x0 y0 x1 y1 && thB px py vx vy x0 y0 x1 y1
def thV (px py vx vy vd x0 y0 x1 y1 : Int) : Fr2 × Fr2 := if thO px py vx vy vd x0 y0 x1 y1 = true then thS px py vx vy x0 y0 x1 y1 else ((0, 0), (0, 0))
theorem thO_t {px py vx vy vd x0 y0 x1 y1 : Int} (h : thO px py vx vy vd x0 y0 x1 y1 = true) : thG px py vx vy vd x0 y0 x1 y1 = true ∧ thB px py vx vy x0 y0 x1 y1 = true := by unfold thO at h; rwa [Bool.and_eq_true] at h
theorem thO_me {px py vx vy vd x0 y0 x1 y1 lo hi : Int} (h : thO px py vx vy vd x0 y0 x1 y1 = false) : smeB px py vx vy vd lo hi x0 y0 x1 y1 = false ∧ sbfB px py vx vy vd hi x0 y0 x1 y1 = false := by
  unfold smeB sbfB meeB bfrB
  unfold thO at h
  cases hg : thG px py vx vy vd x0 y0 x1 y1
  · simp
  · rw [hg, Bool.true_and] at h; rw [h]; simp
theorem snear_c (H : AHeap) (n : Int) : ACalls Tryz.prog 258 [.int .i64 n] H (fun v H' => v = .bool (within n 2097152) ∧ H' = H) := by
  refine AcT true Tryz.func258 ?_; intro hbel Q hQ
  refine runT ?_
  refine gd_split (fun h1 => ?_) (fun h1 => ?_)
  · have h1d := bsT h1
    have g'1 := (jn @h1 @h1d)
    refine runTf g'1 ?_
    exact hQ _ _ (end_plain0 (.inl rfl) hbel (x := .bool (decide (n ≤ 2097152))) (resT Tryz.results258) rfl ⟨by simp [within, h1d], rfl⟩)
  · have h1d := bsT h1
    have g'2 := (jn @h1 @h1d)
    refine runTf g'2 ?_
    exact hQ _ _ (end_plain0 (.inl rfl) hbel (x := .bool false) (resT Tryz.results258) rfl ⟨by simp [within, h1d], rfl⟩)
theorem svpt_c (H : AHeap) (x : Int) (y : Int) : ACalls Tryz.prog 202 [.agg [.int .i64 x, .int .i64 y]] H (fun v H' => v = .bool (lnP x y) ∧ H' = H) := by
  refine AcT true Tryz.func202 ?_; intro hbel Q hQ
  refine runT ?_
  refine call_v (by kernel_rfl) (snear_c _ x) ?_
  refine runT ?_
  refine gd_split (fun h1 => ?_) (fun h1 => ?_)
  · have h1d := bsT h1
    have g'3 := (jn @h1 @h1d)
    refine runTf g'3 ?_
    refine call_v (by kernel_rfl) (snear_c _ y) ?_
    refine runTf g'3 ?_
    exact hQ _ _ (end_plain (.inl rfl) hbel (x := .bool (within y 2097152)) (resT Tryz.results202) rfl ⟨by simp [lnP, h1d], rfl⟩)
  · have h1d := bsT h1
    have g'4 := (jn @h1 @h1d)
    refine runTf g'4 ?_
    exact hQ _ _ (end_plain (.inl rfl) hbel (x := .bool false) (resT Tryz.results202) rfl ⟨by simp [lnP, h1d], rfl⟩)
theorem svv_c (H : AHeap) (x : Int) (y : Int) (d : Int) : ACalls Tryz.prog 335 [.agg [.int .i64 x, .int .i64 y, .int .i64 d]] H (fun v H' => v = .bool (vecB x y d) ∧ H' = H) := by
  refine AcT true Tryz.func335 ?_; intro hbel Q hQ
  refine runT ?_
  refine gd_split (fun h1 => ?_) (fun h1 => ?_)
  · have h1d := bsT h1
    have g'5 := (jn @h1 @h1d)
    refine runTf g'5 ?_
    refine gd_split (fun h2 => ?_) (fun h2 => ?_)
    · have h2d := bsT h2
      have g'6 := (jn @h2 (jn @h2d g'5))
      refine runTf g'6 ?_
      refine gd_split (fun h3 => ?_) (fun h3 => ?_)
      · have h3d := bsT h3
        have g'7 := (jn @h3 (jn @h3d g'6))
        refine runTf g'7 ?_
        refine gd_split (fun h4 => ?_) (fun h4 => ?_)
        · have h4d := bsT h4
          have g'8 := (jn @h4 (jn @h4d g'7))
          refine runTf g'8 ?_
          refine gd_split (fun h5 => ?_) (fun h5 => ?_)
          · have h5d := bsT h5
            have g'9 := (jn @h5 (jn @h5d g'8))
            refine runTf g'9 ?_
            refine cond_split (fun h6 => ?_) (fun h6 => ?_)
            · have h6d := bsT h6
              have g'10 := (jn @h6 (jn @h6d g'9))
              refine runTf g'10 ?_
              exact hQ _ _ (end_plain (.inl rfl) hbel (x := .bool false) (resT Tryz.results335) rfl ⟨by first | (refine congrArg AV.bool ?_; rw [Bool.eq_iff_iff, vecB_iff, beq_iff_eq]; exact ⟨fun e => ⟨⟨by omega, by omega⟩, ⟨by omega, by omega⟩, ⟨by omega, by omega⟩, e⟩, fun e => e.2.2.2⟩) | (refine congrArg AV.bool ?_; rw [Bool.eq_iff_iff, vecB_iff]; exact ⟨fun e => (by cases e), fun k => (by omega)⟩), rfl⟩)
            · have h6d := bsT h6
              have hm1 := mul_bd (a := x) (b := x) (A := 67108864) (B := 67108864) (by omega) (by omega)
              have hm2 := mul_bd (a := y) (b := y) (A := 67108864) (B := 67108864) (by omega) (by omega)
              have hm3 := mul_bd (a := d) (b := d) (A := 67108864) (B := 67108864) (by omega) (by omega)
              have g'11 := (jn @h6 (jn @h6d g'9))
              refine runTf g'11 ?_
              exact hQ _ _ (end_plain (.inl rfl) hbel (x := .bool (((x * x) + (y * y)) == (d * d))) (resT Tryz.results335) rfl ⟨by first | (refine congrArg AV.bool ?_; rw [Bool.eq_iff_iff, vecB_iff, beq_iff_eq]; exact ⟨fun e => ⟨⟨by omega, by omega⟩, ⟨by omega, by omega⟩, ⟨by omega, by omega⟩, e⟩, fun e => e.2.2.2⟩) | (refine congrArg AV.bool ?_; rw [Bool.eq_iff_iff, vecB_iff]; exact ⟨fun e => (by cases e), fun k => (by omega)⟩), rfl⟩)
          · have h5d := bsT h5
            have g'12 := (jn @h5 (jn @h5d g'8))
            refine runTf g'12 ?_
            exact hQ _ _ (end_plain (.inl rfl) hbel (x := .bool false) (resT Tryz.results335) rfl ⟨by first | (refine congrArg AV.bool ?_; rw [Bool.eq_iff_iff, vecB_iff, beq_iff_eq]; exact ⟨fun e => ⟨⟨by omega, by omega⟩, ⟨by omega, by omega⟩, ⟨by omega, by omega⟩, e⟩, fun e => e.2.2.2⟩) | (refine congrArg AV.bool ?_; rw [Bool.eq_iff_iff, vecB_iff]; exact ⟨fun e => (by cases e), fun k => (by omega)⟩), rfl⟩)
        · have h4d := bsT h4
          have g'13 := (jn @h4 (jn @h4d g'7))
          refine runTf g'13 ?_
          exact hQ _ _ (end_plain (.inl rfl) hbel (x := .bool false) (resT Tryz.results335) rfl ⟨by first | (refine congrArg AV.bool ?_; rw [Bool.eq_iff_iff, vecB_iff, beq_iff_eq]; exact ⟨fun e => ⟨⟨by omega, by omega⟩, ⟨by omega, by omega⟩, ⟨by omega, by omega⟩, e⟩, fun e => e.2.2.2⟩) | (refine congrArg AV.bool ?_; rw [Bool.eq_iff_iff, vecB_iff]; exact ⟨fun e => (by cases e), fun k => (by omega)⟩), rfl⟩)
      · have h3d := bsT h3
        have g'14 := (jn @h3 (jn @h3d g'6))
        refine runTf g'14 ?_
        exact hQ _ _ (end_plain (.inl rfl) hbel (x := .bool false) (resT Tryz.results335) rfl ⟨by first | (refine congrArg AV.bool ?_; rw [Bool.eq_iff_iff, vecB_iff, beq_iff_eq]; exact ⟨fun e => ⟨⟨by omega, by omega⟩, ⟨by omega, by omega⟩, ⟨by omega, by omega⟩, e⟩, fun e => e.2.2.2⟩) | (refine congrArg AV.bool ?_; rw [Bool.eq_iff_iff, vecB_iff]; exact ⟨fun e => (by cases e), fun k => (by omega)⟩), rfl⟩)
    · have h2d := bsT h2
      have g'15 := (jn @h2 (jn @h2d g'5))
      refine runTf g'15 ?_
      exact hQ _ _ (end_plain (.inl rfl) hbel (x := .bool false) (resT Tryz.results335) rfl ⟨by first | (refine congrArg AV.bool ?_; rw [Bool.eq_iff_iff, vecB_iff, beq_iff_eq]; exact ⟨fun e => ⟨⟨by omega, by omega⟩, ⟨by omega, by omega⟩, ⟨by omega, by omega⟩, e⟩, fun e => e.2.2.2⟩) | (refine congrArg AV.bool ?_; rw [Bool.eq_iff_iff, vecB_iff]; exact ⟨fun e => (by cases e), fun k => (by omega)⟩), rfl⟩)
  · have h1d := bsT h1
    have g'16 := (jn @h1 @h1d)
    refine runTf g'16 ?_
    exact hQ _ _ (end_plain (.inl rfl) hbel (x := .bool false) (resT Tryz.results335) rfl ⟨by first | (refine congrArg AV.bool ?_; rw [Bool.eq_iff_iff, vecB_iff, beq_iff_eq]; exact ⟨fun e => ⟨⟨by omega, by omega⟩, ⟨by omega, by omega⟩, ⟨by omega, by omega⟩, e⟩, fun e => e.2.2.2⟩) | (refine congrArg AV.bool ?_; rw [Bool.eq_iff_iff, vecB_iff]; exact ⟨fun e => (by cases e), fun k => (by omega)⟩), rfl⟩)
theorem svrc_c (H : AHeap) (x0 : Int) (y0 : Int) (x1 : Int) (y1 : Int) : ACalls Tryz.prog 203 [.agg [.int .i64 x0, .int .i64 y0, .int .i64 x1, .int .i64 y1]] H (fun v H' => v = .bool (lnR x0 y0 x1 y1) ∧ H' = H) := by
  refine AcT true Tryz.func203 ?_; intro hbel Q hQ
  refine runT ?_
  refine call_v (by kernel_rfl) (snear_c _ x0) ?_
  refine runT ?_
  refine gd_split (fun h1 => ?_) (fun h1 => ?_)
  · have h1d := bsT h1
    have wx0 := within_iff.1 h1d
    have g'17 := (jn @h1 @h1d)
    refine runTf g'17 ?_
    refine call_v (by kernel_rfl) (snear_c _ y0) ?_
    refine runTf g'17 ?_
    refine gd_split (fun h2 => ?_) (fun h2 => ?_)
    · have h2d := bsT h2
      have wy0 := within_iff.1 h2d
      have g'18 := (jn @h2 (jn @h2d g'17))
      refine runTf g'18 ?_
      refine call_v (by kernel_rfl) (snear_c _ x1) ?_
      refine runTf g'18 ?_
      refine gd_split (fun h3 => ?_) (fun h3 => ?_)
      · have h3d := bsT h3
        have wx1 := within_iff.1 h3d
        have g'19 := (jn @h3 (jn @h3d g'18))
        refine runTf g'19 ?_
        refine call_v (by kernel_rfl) (snear_c _ y1) ?_
        refine runTf g'19 ?_
        refine gd_split (fun h4 => ?_) (fun h4 => ?_)
        · have h4d := bsT h4
          have wy1 := within_iff.1 h4d
          have g'20 := (jn @h4 (jn @h4d g'19))
          refine runTf g'20 ?_
          refine gd_split (fun h5 => ?_) (fun h5 => ?_)
          · have h5d := bsT h5
            have g'21 := (jn @h5 (jn @h5d g'20))
            refine runTf g'21 ?_
            exact hQ _ _ (end_plain (.inl rfl) hbel (x := .bool (decide (y0 ≤ y1))) (resT Tryz.results203) rfl ⟨by first | (refine congrArg AV.bool ?_; rw [Bool.eq_iff_iff, lnR_iff, decide_eq_true_eq]; omega) | (refine congrArg AV.bool ?_; rw [Bool.eq_iff_iff, lnR_iff]; exact ⟨fun e => (by cases e), fun k => (by omega)⟩), rfl⟩)
          · have h5d := bsT h5
            have g'22 := (jn @h5 (jn @h5d g'20))
            refine runTf g'22 ?_
            exact hQ _ _ (end_plain (.inl rfl) hbel (x := .bool false) (resT Tryz.results203) rfl ⟨by first | (refine congrArg AV.bool ?_; rw [Bool.eq_iff_iff, lnR_iff, decide_eq_true_eq]; omega) | (refine congrArg AV.bool ?_; rw [Bool.eq_iff_iff, lnR_iff]; exact ⟨fun e => (by cases e), fun k => (by omega)⟩), rfl⟩)
        · have h4d := bsT h4
          have wy1 : ¬ (-2097152 ≤ y1 ∧ y1 ≤ 2097152) := mt within_iff.2 (by rw [h4d]; decide)
          have g'23 := (jn @h4 (jn @h4d g'19))
          refine runTf g'23 ?_
          exact hQ _ _ (end_plain (.inl rfl) hbel (x := .bool false) (resT Tryz.results203) rfl ⟨by first | (refine congrArg AV.bool ?_; rw [Bool.eq_iff_iff, lnR_iff, decide_eq_true_eq]; omega) | (refine congrArg AV.bool ?_; rw [Bool.eq_iff_iff, lnR_iff]; exact ⟨fun e => (by cases e), fun k => (by omega)⟩), rfl⟩)
      · have h3d := bsT h3
        have wx1 : ¬ (-2097152 ≤ x1 ∧ x1 ≤ 2097152) := mt within_iff.2 (by rw [h3d]; decide)
        have g'24 := (jn @h3 (jn @h3d g'18))
        refine runTf g'24 ?_
        exact hQ _ _ (end_plain (.inl rfl) hbel (x := .bool false) (resT Tryz.results203) rfl ⟨by first | (refine congrArg AV.bool ?_; rw [Bool.eq_iff_iff, lnR_iff, decide_eq_true_eq]; omega) | (refine congrArg AV.bool ?_; rw [Bool.eq_iff_iff, lnR_iff]; exact ⟨fun e => (by cases e), fun k => (by omega)⟩), rfl⟩)
    · have h2d := bsT h2
      have wy0 : ¬ (-2097152 ≤ y0 ∧ y0 ≤ 2097152) := mt within_iff.2 (by rw [h2d]; decide)
      have g'25 := (jn @h2 (jn @h2d g'17))
      refine runTf g'25 ?_
      exact hQ _ _ (end_plain (.inl rfl) hbel (x := .bool false) (resT Tryz.results203) rfl ⟨by first | (refine congrArg AV.bool ?_; rw [Bool.eq_iff_iff, lnR_iff, decide_eq_true_eq]; omega) | (refine congrArg AV.bool ?_; rw [Bool.eq_iff_iff, lnR_iff]; exact ⟨fun e => (by cases e), fun k => (by omega)⟩), rfl⟩)
  · have h1d := bsT h1
    have wx0 : ¬ (-2097152 ≤ x0 ∧ x0 ≤ 2097152) := mt within_iff.2 (by rw [h1d]; decide)
    have g'26 := (jn @h1 @h1d)
    refine runTf g'26 ?_
    exact hQ _ _ (end_plain (.inl rfl) hbel (x := .bool false) (resT Tryz.results203) rfl ⟨by first | (refine congrArg AV.bool ?_; rw [Bool.eq_iff_iff, lnR_iff, decide_eq_true_eq]; omega) | (refine congrArg AV.bool ?_; rw [Bool.eq_iff_iff, lnR_iff]; exact ⟨fun e => (by cases e), fun k => (by omega)⟩), rfl⟩)
theorem sless_c (H : AHeap) (p1 : Int) (p2 : Int) (q1 : Int) (q2 : Int) (k1 : -8388608 ≤ p1 ∧ p1 ≤ 8388608) (k2 : 1 ≤ p2 ∧ p2 ≤ 67108864) (k3 : -8388608 ≤ q1 ∧ q1 ≤ 8388608) (k4 : 1 ≤ q2 ∧ q2 ≤ 67108864) : ACalls Tryz.prog 340 [.agg [.int .i64 p1, .int .i64 p2], .agg [.int .i64 q1, .int .i64 q2]] H (fun v H' => v = .bool (decide (p1 * q2 < q1 * p2)) ∧ H' = H) := by
  have hm1 := mul_bd (a := p1) (b := q2) (A := 8388608) (B := 67108864) (by omega) (by omega)
  have hm2 := mul_bd (a := q1) (b := p2) (A := 8388608) (B := 67108864) (by omega) (by omega)
  refine AcT true Tryz.func340 ?_; intro hbel Q hQ
  refine runT ?_
  exact hQ _ _ (end_plain (.inl rfl) hbel (x := .bool (decide ((p1 * q2) < (q1 * p2)))) (resT Tryz.results340) rfl ⟨rfl, rfl⟩)
theorem slab_c (H : AHeap) (S : Fr2 × Fr2) (p : Int) (d : Int) (a : Int) (b : Int) (hS : bdSp S) (hp : -2097152 ≤ p ∧ p ≤ 2097152) (hd : -67108864 ≤ d ∧ d ≤ 67108864) (ha : -2097152 ≤ a ∧ a ≤ 2097152) (hb : -2097152 ≤ b ∧ b ≤ 2097152) : ACalls Tryz.prog 336 [.ptr (some (H.length, 0)), .int .i64 p, .int .i64 d, .int .i64 a, .int .i64 b] (H ++ [.cells true 0 [.int .i64 S.1.1, .int .i64 S.1.2, .int .i64 S.2.1, .int .i64 S.2.2]]) (fun v H' => v = .bool (slabB S p d a b) ∧ H' = H ++ [.cells true 0 [.int .i64 ((slabV S p d a b).1.1), .int .i64 ((slabV S p d a b).1.2), .int .i64 ((slabV S p d a b).2.1), .int .i64 ((slabV S p d a b).2.2)]]) := by
  obtain ⟨⟨hS1, hS2⟩, hS3, hS4⟩ := id hS
  refine AcT true Tryz.func336 ?_; intro hbel Q hQ
  refine runT ?_
  refine cond_split (fun h1 => ?_) (fun h1 => ?_)
  · have h1d := bsT h1
    have h1n := bnT h1
    have hd0 : d = 0 := by simpa using h1d
    have g'27 := (jn @h1 (jn @h1n (jn @int_bne @int_beq)))
    refine runTf g'27 ?_
    refine gd_split (fun h2 => ?_) (fun h2 => ?_)
    · have h2d := bsT h2
      have g'28 := (jn @h2 (jn @h2d g'27))
      refine runTf g'28 ?_
      exact hQ _ _ (end_own (b1 := .cells true 0 [.int .i64 S.1.1, .int .i64 S.1.2, .int .i64 S.2.1, .int .i64 S.2.2]) (.inl rfl) hbel (by simp only [ABlk.bel, AV.bels, AV.bel, Bool.true_and]) (x := .bool (decide (p ≤ b))) (resT Tryz.results336) rfl ⟨by (try simp only [Int.zero_sub] at *); first | (simp [slabB, slabV, hd0, h2d, h1d]; done) | (simp [slabB, slabV, mxF, mnF, sbL, sbH, hd0, h2d, h1d]; done) | skip, by (try simp only [Int.zero_sub] at *); first | (simp [slabB, slabV, hd0, h2d, h1d]; done) | (simp [slabB, slabV, mxF, mnF, sbL, sbH, hd0, h2d, h1d]; done) | skip⟩)
    · have h2d := bsT h2
      have g'29 := (jn @h2 (jn @h2d g'27))
      refine runTf g'29 ?_
      exact hQ _ _ (end_own (b1 := .cells true 0 [.int .i64 S.1.1, .int .i64 S.1.2, .int .i64 S.2.1, .int .i64 S.2.2]) (.inl rfl) hbel (by simp only [ABlk.bel, AV.bels, AV.bel, Bool.true_and]) (x := .bool false) (resT Tryz.results336) rfl ⟨by (try simp only [Int.zero_sub] at *); first | (simp [slabB, slabV, hd0, h2d, h1d]; done) | (simp [slabB, slabV, mxF, mnF, sbL, sbH, hd0, h2d, h1d]; done) | skip, by (try simp only [Int.zero_sub] at *); first | (simp [slabB, slabV, hd0, h2d, h1d]; done) | (simp [slabB, slabV, mxF, mnF, sbL, sbH, hd0, h2d, h1d]; done) | skip⟩)
  · have h1d := bsT h1
    have h1n := bnT h1
    have hd0 : ¬ d = 0 := by simpa using h1d
    have g'30 := (jn @h1 (jn @h1n (jn @int_bne @int_beq)))
    refine runTf g'30 ?_
    refine cond_split (fun h3 => ?_) (fun h3 => ?_)
    · have h3d := bsT h3
      have g'31 := (jn @h3 (jn @h3d g'30))
      refine runTf g'31 ?_
      refine call_d (by kernel_rfl) (sless_c _ S.1.1 S.1.2 (p - b) (0 - d) (by omega) (by omega) (by omega) (by omega)) ?_
      refine runTf g'31 ?_
      refine cond_split (fun h4 => ?_) (fun h4 => ?_)
      · have h4d := bsT h4
        have g'32 := (jn @h4 (jn @h4d g'31))
        refine runTf g'32 ?_
        refine call_d (by kernel_rfl) (sless_c _ (p - a) (0 - d) S.2.1 S.2.2 (by omega) (by omega) (by omega) (by omega)) ?_
        refine runTf g'32 ?_
        refine cond_split (fun h5 => ?_) (fun h5 => ?_)
        · have h5d := bsT h5
          have g'33 := (jn @h5 (jn @h5d g'32))
          refine runTf g'33 ?_
          refine call_d (by kernel_rfl) (sless_c _ (p - a) (0 - d) (p - b) (0 - d) (by omega) (by omega) (by omega) (by omega)) ?_
          refine runTf g'33 ?_
          exact hQ _ _ (end_own (b1 := .cells true 0 [.int .i64 (p - b), .int .i64 (0 - d), .int .i64 (p - a), .int .i64 (0 - d)]) (.inl rfl) hbel (by simp only [ABlk.bel, AV.bels, AV.bel, Bool.true_and]) (x := .bool (!(decide ((p - a) * (0 - d) < (p - b) * (0 - d))))) (resT Tryz.results336) rfl ⟨by (try simp only [Int.zero_sub] at *); first | (simp [slabB, slabV, hd0, h3d, h4d, h5d, h1d]; done) | (simp [slabB, slabV, mxF, mnF, sbL, sbH, hd0, h3d, h4d, h5d, h1d]; done) | skip, by (try simp only [Int.zero_sub] at *); first | (simp [slabB, slabV, hd0, h3d, h4d, h5d, h1d]; done) | (simp [slabB, slabV, mxF, mnF, sbL, sbH, hd0, h3d, h4d, h5d, h1d]; done) | skip⟩)
        · have h5d := bsT h5
          have g'34 := (jn @h5 (jn @h5d g'32))
          refine runTf g'34 ?_
          refine call_d (by kernel_rfl) (sless_c _ S.2.1 S.2.2 (p - b) (0 - d) (by omega) (by omega) (by omega) (by omega)) ?_
          refine runTf g'34 ?_
          exact hQ _ _ (end_own (b1 := .cells true 0 [.int .i64 (p - b), .int .i64 (0 - d), .int .i64 S.2.1, .int .i64 S.2.2]) (.inl rfl) hbel (by simp only [ABlk.bel, AV.bels, AV.bel, Bool.true_and]) (x := .bool (!(decide (S.2.1 * (0 - d) < (p - b) * S.2.2)))) (resT Tryz.results336) rfl ⟨by (try simp only [Int.zero_sub] at *); first | (simp [slabB, slabV, hd0, h3d, h4d, h5d, h1d]; done) | (simp [slabB, slabV, mxF, mnF, sbL, sbH, hd0, h3d, h4d, h5d, h1d]; done) | skip, by (try simp only [Int.zero_sub] at *); first | (simp [slabB, slabV, hd0, h3d, h4d, h5d, h1d]; done) | (simp [slabB, slabV, mxF, mnF, sbL, sbH, hd0, h3d, h4d, h5d, h1d]; done) | skip⟩)
      · have h4d := bsT h4
        have g'35 := (jn @h4 (jn @h4d g'31))
        refine runTf g'35 ?_
        refine call_d (by kernel_rfl) (sless_c _ (p - a) (0 - d) S.2.1 S.2.2 (by omega) (by omega) (by omega) (by omega)) ?_
        refine runTf g'35 ?_
        refine cond_split (fun h6 => ?_) (fun h6 => ?_)
        · have h6d := bsT h6
          have g'36 := (jn @h6 (jn @h6d g'35))
          refine runTf g'36 ?_
          refine call_d (by kernel_rfl) (sless_c _ (p - a) (0 - d) S.1.1 S.1.2 (by omega) (by omega) (by omega) (by omega)) ?_
          refine runTf g'36 ?_
          exact hQ _ _ (end_own (b1 := .cells true 0 [.int .i64 S.1.1, .int .i64 S.1.2, .int .i64 (p - a), .int .i64 (0 - d)]) (.inl rfl) hbel (by simp only [ABlk.bel, AV.bels, AV.bel, Bool.true_and]) (x := .bool (!(decide ((p - a) * S.1.2 < S.1.1 * (0 - d))))) (resT Tryz.results336) rfl ⟨by (try simp only [Int.zero_sub] at *); first | (simp [slabB, slabV, hd0, h3d, h4d, h6d, h1d]; done) | (simp [slabB, slabV, mxF, mnF, sbL, sbH, hd0, h3d, h4d, h6d, h1d]; done) | skip, by (try simp only [Int.zero_sub] at *); first | (simp [slabB, slabV, hd0, h3d, h4d, h6d, h1d]; done) | (simp [slabB, slabV, mxF, mnF, sbL, sbH, hd0, h3d, h4d, h6d, h1d]; done) | skip⟩)
        · have h6d := bsT h6
          have g'37 := (jn @h6 (jn @h6d g'35))
          refine runTf g'37 ?_
          refine call_d (by kernel_rfl) (sless_c _ S.2.1 S.2.2 S.1.1 S.1.2 (by omega) (by omega) (by omega) (by omega)) ?_
          refine runTf g'37 ?_
          exact hQ _ _ (end_own (b1 := .cells true 0 [.int .i64 S.1.1, .int .i64 S.1.2, .int .i64 S.2.1, .int .i64 S.2.2]) (.inl rfl) hbel (by simp only [ABlk.bel, AV.bels, AV.bel, Bool.true_and]) (x := .bool (!(decide (S.2.1 * S.1.2 < S.1.1 * S.2.2)))) (resT Tryz.results336) rfl ⟨by (try simp only [Int.zero_sub] at *); first | (simp [slabB, slabV, hd0, h3d, h4d, h6d, h1d]; done) | (simp [slabB, slabV, mxF, mnF, sbL, sbH, hd0, h3d, h4d, h6d, h1d]; done) | skip, by (try simp only [Int.zero_sub] at *); first | (simp [slabB, slabV, hd0, h3d, h4d, h6d, h1d]; done) | (simp [slabB, slabV, mxF, mnF, sbL, sbH, hd0, h3d, h4d, h6d, h1d]; done) | skip⟩)
    · have h3d := bsT h3
      have g'38 := (jn @h3 (jn @h3d g'30))
      refine runTf g'38 ?_
      refine call_d (by kernel_rfl) (sless_c _ S.1.1 S.1.2 (a - p) d (by omega) (by omega) (by omega) (by omega)) ?_
      refine runTf g'38 ?_
      refine cond_split (fun h7 => ?_) (fun h7 => ?_)
      · have h7d := bsT h7
        have g'39 := (jn @h7 (jn @h7d g'38))
        refine runTf g'39 ?_
        refine call_d (by kernel_rfl) (sless_c _ (b - p) d S.2.1 S.2.2 (by omega) (by omega) (by omega) (by omega)) ?_
        refine runTf g'39 ?_
        refine cond_split (fun h8 => ?_) (fun h8 => ?_)
        · have h8d := bsT h8
          have g'40 := (jn @h8 (jn @h8d g'39))
          refine runTf g'40 ?_
          refine call_d (by kernel_rfl) (sless_c _ (b - p) d (a - p) d (by omega) (by omega) (by omega) (by omega)) ?_
          refine runTf g'40 ?_
          exact hQ _ _ (end_own (b1 := .cells true 0 [.int .i64 (a - p), .int .i64 d, .int .i64 (b - p), .int .i64 d]) (.inl rfl) hbel (by simp only [ABlk.bel, AV.bels, AV.bel, Bool.true_and]) (x := .bool (!(decide ((b - p) * d < (a - p) * d)))) (resT Tryz.results336) rfl ⟨by (try simp only [Int.zero_sub] at *); first | (simp [slabB, slabV, hd0, h3d, h7d, h8d, h1d]; done) | (simp [slabB, slabV, mxF, mnF, sbL, sbH, hd0, h3d, h7d, h8d, h1d]; done) | skip, by (try simp only [Int.zero_sub] at *); first | (simp [slabB, slabV, hd0, h3d, h7d, h8d, h1d]; done) | (simp [slabB, slabV, mxF, mnF, sbL, sbH, hd0, h3d, h7d, h8d, h1d]; done) | skip⟩)
        · have h8d := bsT h8
          have g'41 := (jn @h8 (jn @h8d g'39))
          refine runTf g'41 ?_
          refine call_d (by kernel_rfl) (sless_c _ S.2.1 S.2.2 (a - p) d (by omega) (by omega) (by omega) (by omega)) ?_
          refine runTf g'41 ?_
          exact hQ _ _ (end_own (b1 := .cells true 0 [.int .i64 (a - p), .int .i64 d, .int .i64 S.2.1, .int .i64 S.2.2]) (.inl rfl) hbel (by simp only [ABlk.bel, AV.bels, AV.bel, Bool.true_and]) (x := .bool (!(decide (S.2.1 * d < (a - p) * S.2.2)))) (resT Tryz.results336) rfl ⟨by (try simp only [Int.zero_sub] at *); first | (simp [slabB, slabV, hd0, h3d, h7d, h8d, h1d]; done) | (simp [slabB, slabV, mxF, mnF, sbL, sbH, hd0, h3d, h7d, h8d, h1d]; done) | skip, by (try simp only [Int.zero_sub] at *); first | (simp [slabB, slabV, hd0, h3d, h7d, h8d, h1d]; done) | (simp [slabB, slabV, mxF, mnF, sbL, sbH, hd0, h3d, h7d, h8d, h1d]; done) | skip⟩)
      · have h7d := bsT h7
        have g'42 := (jn @h7 (jn @h7d g'38))
        refine runTf g'42 ?_
        refine call_d (by kernel_rfl) (sless_c _ (b - p) d S.2.1 S.2.2 (by omega) (by omega) (by omega) (by omega)) ?_
        refine runTf g'42 ?_
        refine cond_split (fun h9 => ?_) (fun h9 => ?_)
        · have h9d := bsT h9
          have g'43 := (jn @h9 (jn @h9d g'42))
          refine runTf g'43 ?_
          refine call_d (by kernel_rfl) (sless_c _ (b - p) d S.1.1 S.1.2 (by omega) (by omega) (by omega) (by omega)) ?_
          refine runTf g'43 ?_
          exact hQ _ _ (end_own (b1 := .cells true 0 [.int .i64 S.1.1, .int .i64 S.1.2, .int .i64 (b - p), .int .i64 d]) (.inl rfl) hbel (by simp only [ABlk.bel, AV.bels, AV.bel, Bool.true_and]) (x := .bool (!(decide ((b - p) * S.1.2 < S.1.1 * d)))) (resT Tryz.results336) rfl ⟨by (try simp only [Int.zero_sub] at *); first | (simp [slabB, slabV, hd0, h3d, h7d, h9d, h1d]; done) | (simp [slabB, slabV, mxF, mnF, sbL, sbH, hd0, h3d, h7d, h9d, h1d]; done) | skip, by (try simp only [Int.zero_sub] at *); first | (simp [slabB, slabV, hd0, h3d, h7d, h9d, h1d]; done) | (simp [slabB, slabV, mxF, mnF, sbL, sbH, hd0, h3d, h7d, h9d, h1d]; done) | skip⟩)
        · have h9d := bsT h9
          have g'44 := (jn @h9 (jn @h9d g'42))
          refine runTf g'44 ?_
          refine call_d (by kernel_rfl) (sless_c _ S.2.1 S.2.2 S.1.1 S.1.2 (by omega) (by omega) (by omega) (by omega)) ?_
          refine runTf g'44 ?_
          exact hQ _ _ (end_own (b1 := .cells true 0 [.int .i64 S.1.1, .int .i64 S.1.2, .int .i64 S.2.1, .int .i64 S.2.2]) (.inl rfl) hbel (by simp only [ABlk.bel, AV.bels, AV.bel, Bool.true_and]) (x := .bool (!(decide (S.2.1 * S.1.2 < S.1.1 * S.2.2)))) (resT Tryz.results336) rfl ⟨by (try simp only [Int.zero_sub] at *); first | (simp [slabB, slabV, hd0, h3d, h7d, h9d, h1d]; done) | (simp [slabB, slabV, mxF, mnF, sbL, sbH, hd0, h3d, h7d, h9d, h1d]; done) | skip, by (try simp only [Int.zero_sub] at *); first | (simp [slabB, slabV, hd0, h3d, h7d, h9d, h1d]; done) | (simp [slabB, slabV, mxF, mnF, sbL, sbH, hd0, h3d, h7d, h9d, h1d]; done) | skip⟩)
theorem slab4_c (H : AHeap) (A B C D : ABlk) (S : Fr2 × Fr2) (p d a b : Int) (hS : bdSp S) (hp : -2097152 ≤ p ∧ p ≤ 2097152) (hd : -67108864 ≤ d ∧ d ≤ 67108864) (ha : -2097152 ≤ a ∧ a ≤ 2097152) (hb : -2097152 ≤ b ∧ b ≤ 2097152) :
    ACalls Tryz.prog 336 [.ptr (some (H.length + 4, 0)), .int .i64 p, .int .i64 d, .int .i64 a, .int .i64 b] (H ++ [A, B, C, D, .cells true 0 [.int .i64 S.1.1, .int .i64 S.1.2, .int .i64 S.2.1, .int .i64 S.2.2]]) (fun v H' => v = .bool (slabB S p d a b) ∧ H' = H ++ [A, B, C, D, .cells true 0 [.int .i64 (slabV S p d a b).1.1, .int .i64 (slabV S p d a b).1.2, .int .i64 (slabV S p d a b).2.1, .int .i64 (slabV S p d a b).2.2]]) := by
  have h := slab_c (H ++ [A, B, C, D]) S p d a b hS hp hd ha hb
  simpa only [List.append_assoc, List.cons_append, List.nil_append, List.length_append, List.length_cons, List.length_nil, Nat.zero_add, Nat.reduceAdd] using h
theorem through_c (H : AHeap) (px : Int) (py : Int) (vx : Int) (vy : Int) (vd : Int) (x0 : Int) (y0 : Int) (x1 : Int) (y1 : Int) : ACalls Tryz.prog 315 [.agg [.int .i64 px, .int .i64 py], .agg [.int .i64 vx, .int .i64 vy, .int .i64 vd], .agg [.int .i64 x0, .int .i64 y0, .int .i64 x1, .int .i64 y1]] H (fun v H' => v = .tup [.agg [.int .i64 ((thV px py vx vy vd x0 y0 x1 y1).1.1), .int .i64 ((thV px py vx vy vd x0 y0 x1 y1).1.2), .int .i64 ((thV px py vx vy vd x0 y0 x1 y1).2.1), .int .i64 ((thV px py vx vy vd x0 y0 x1 y1).2.2)], .bool (thO px py vx vy vd x0 y0 x1 y1)] ∧ H' = H) := by
  refine AcT true Tryz.func315 ?_; intro hbel Q hQ
  refine runT ?_
  refine call_v (by kernel_rfl) (svpt_c _ px py) ?_
  refine runT ?_
  refine gd_split (fun h1 => ?_) (fun h1 => ?_)
  · have h1d := bsT h1
    have hvP := h1d
    have hvp := lnP_iff.1 h1d
    have g'45 := (jn @h1 @h1d)
    refine runTf g'45 ?_
    refine call_v (by kernel_rfl) (svv_c _ vx vy vd) ?_
    refine runTf g'45 ?_
    refine gd_split (fun h2 => ?_) (fun h2 => ?_)
    · have h2d := bsT h2
      have hvV := h2d
      have hvv := vecB_iff.1 h2d
      have g'46 := (jn @h2 (jn @h2d g'45))
      refine runTf g'46 ?_
      refine call_v (by kernel_rfl) (svrc_c _ x0 y0 x1 y1) ?_
      refine runTf g'46 ?_
      refine cond_split (fun h3 => ?_) (fun h3 => ?_)
      · have h3d := bsT h3
        have hfinO : thO px py vx vy vd x0 y0 x1 y1 = false := by simp [thO, thG, h3d]
        have g'47 := (jn @h3 (jn @h3d g'46))
        refine runTf g'47 ?_
        exact hQ _ _ (end_plain (.inl rfl) hbel (x := .tup [.agg [.int .i64 0, .int .i64 0, .int .i64 0, .int .i64 0], .bool false]) (resT Tryz.results315) rfl ⟨by unfold thV; rw [hfinO]; rfl, rfl⟩)
      · have h3d := bsT h3
        have hvr := lnR_iff.1 h3d
        have hgT : thG px py vx vy vd x0 y0 x1 y1 = true := thG_iff.2 ⟨hvP, hvV, h3d⟩
        have hb0 := thS0_bd
        have hb1 := (thS_bd hgT).1
        have g'48 := (jn @h3 (jn @h3d g'46))
        refine runTf g'48 ?_
        refine call_v (by kernel_rfl) (slab4_c _ _ _ _ _ thS0 px vx x0 x1 (by assumption) (by omega) (by omega) (by omega) (by omega)) ?_
        refine runTf g'48 ?_
        refine gd_split (fun h4 => ?_) (fun h4 => ?_)
        · have h4d := bsT h4
          have hs1 := h4d
          have g'49 := (jn @h4 (jn @h4d g'48))
          refine runTf g'49 ?_
          refine call_v (by kernel_rfl) (slab4_c _ _ _ _ _ (slabV thS0 px vx x0 x1) py vy y0 y1 (by assumption) (by omega) (by omega) (by omega) (by omega)) ?_
          refine runTf g'49 ?_
          refine cond_split (fun h5 => ?_) (fun h5 => ?_)
          · have h5d := bsT h5
            have hfinO : thO px py vx vy vd x0 y0 x1 y1 = false := by simp [thO, thB, h5d]
            have g'50 := (jn @h5 (jn @h5d g'49))
            refine runTf g'50 ?_
            exact hQ _ _ (end_plain (.inl rfl) hbel (x := .tup [.agg [.int .i64 0, .int .i64 0, .int .i64 0, .int .i64 0], .bool false]) (resT Tryz.results315) rfl ⟨by unfold thV; rw [hfinO]; rfl, rfl⟩)
          · have h5d := bsT h5
            have hfinO : thO px py vx vy vd x0 y0 x1 y1 = true := by unfold thO thB; rw [hgT, hs1, h5d]; rfl
            have g'51 := (jn @h5 (jn @h5d g'49))
            refine runTf g'51 ?_
            exact hQ _ _ (end_plain (.inl rfl) hbel (x := .tup [.agg [.int .i64 ((slabV (slabV thS0 px vx x0 x1) py vy y0 y1).1.1), .int .i64 ((slabV (slabV thS0 px vx x0 x1) py vy y0 y1).1.2), .int .i64 ((slabV (slabV thS0 px vx x0 x1) py vy y0 y1).2.1), .int .i64 ((slabV (slabV thS0 px vx x0 x1) py vy y0 y1).2.2)], .bool true]) (resT Tryz.results315) rfl ⟨by unfold thV; rw [hfinO]; rfl, rfl⟩)
        · have h4d := bsT h4
          have hfinO : thO px py vx vy vd x0 y0 x1 y1 = false := by simp [thO, thB, h4d]
          have g'52 := (jn @h4 (jn @h4d g'48))
          refine runTf g'52 ?_
          exact hQ _ _ (end_plain (.inl rfl) hbel (x := .tup [.agg [.int .i64 0, .int .i64 0, .int .i64 0, .int .i64 0], .bool false]) (resT Tryz.results315) rfl ⟨by unfold thV; rw [hfinO]; rfl, rfl⟩)
    · have h2d := bsT h2
      have hfinO : thO px py vx vy vd x0 y0 x1 y1 = false := by simp [thO, thG, h2d]
      have g'53 := (jn @h2 (jn @h2d g'45))
      refine runTf g'53 ?_
      exact hQ _ _ (end_plain (.inl rfl) hbel (x := .tup [.agg [.int .i64 0, .int .i64 0, .int .i64 0, .int .i64 0], .bool false]) (resT Tryz.results315) rfl ⟨by unfold thV; rw [hfinO]; rfl, rfl⟩)
  · have h1d := bsT h1
    have hfinO : thO px py vx vy vd x0 y0 x1 y1 = false := by simp [thO, thG, h1d]
    have g'54 := (jn @h1 @h1d)
    refine runTf g'54 ?_
    exact hQ _ _ (end_plain (.inl rfl) hbel (x := .tup [.agg [.int .i64 0, .int .i64 0, .int .i64 0, .int .i64 0], .bool false]) (resT Tryz.results315) rfl ⟨by unfold thV; rw [hfinO]; rfl, rfl⟩)
theorem through_t (H : AHeap) (px py vx vy vd x0 y0 x1 y1 : Int) (h : thO px py vx vy vd x0 y0 x1 y1 = true) : ACalls Tryz.prog 315 [.agg [.int .i64 px, .int .i64 py], .agg [.int .i64 vx, .int .i64 vy, .int .i64 vd], .agg [.int .i64 x0, .int .i64 y0, .int .i64 x1, .int .i64 y1]] H (fun v H' => v = .tup [.agg [.int .i64 (thS px py vx vy x0 y0 x1 y1).1.1, .int .i64 (thS px py vx vy x0 y0 x1 y1).1.2, .int .i64 (thS px py vx vy x0 y0 x1 y1).2.1, .int .i64 (thS px py vx vy x0 y0 x1 y1).2.2], .bool true] ∧ H' = H) := by
  have q := through_c H px py vx vy vd x0 y0 x1 y1
  simp only [thV, h, if_true] at q; exact q
theorem through_f (H : AHeap) (px py vx vy vd x0 y0 x1 y1 : Int) (h : thO px py vx vy vd x0 y0 x1 y1 = false) : ACalls Tryz.prog 315 [.agg [.int .i64 px, .int .i64 py], .agg [.int .i64 vx, .int .i64 vy, .int .i64 vd], .agg [.int .i64 x0, .int .i64 y0, .int .i64 x1, .int .i64 y1]] H (fun v H' => v = .tup [.agg [.int .i64 0, .int .i64 0, .int .i64 0, .int .i64 0], .bool false] ∧ H' = H) := by
  have q := through_c H px py vx vy vd x0 y0 x1 y1
  simp only [thV, h, if_false, Bool.false_eq_true] at q; exact q
theorem smeets_c (H : AHeap) (px : Int) (py : Int) (vx : Int) (vy : Int) (vd : Int) (lo : Int) (hi : Int) (x0 : Int) (y0 : Int) (x1 : Int) (y1 : Int) : ACalls Tryz.prog 287 [.agg [.int .i64 px, .int .i64 py], .agg [.int .i64 vx, .int .i64 vy, .int .i64 vd], .int .i64 lo, .int .i64 hi, .agg [.int .i64 x0, .int .i64 y0, .int .i64 x1, .int .i64 y1]] H (fun v H' => v = .bool (smeB px py vx vy vd lo hi x0 y0 x1 y1) ∧ H' = H) := by
  refine AcT true Tryz.func287 ?_; intro hbel Q hQ
  refine runT ?_
  refine gd_split (fun h1 => ?_) (fun h1 => ?_)
  · have h1d := bsT h1
    have g'55 := (jn @h1 @h1d)
    refine runTf g'55 ?_
    refine gd_split (fun h2 => ?_) (fun h2 => ?_)
    · have h2d := bsT h2
      have g'56 := (jn @h2 (jn @h2d g'55))
      refine runTf g'56 ?_
      refine cond_split (fun h3 => ?_) (fun h3 => ?_)
      · have h3d := bsT h3
        have g'57 := (jn @h3 (jn @h3d g'56))
        refine runTf g'57 ?_
        exact hQ _ _ (end_plain (.inl rfl) hbel (x := .bool false) (resT Tryz.results287) rfl ⟨by first | (rw [hfinN]; done) | (refine congrArg AV.bool ?_; rw [Bool.eq_iff_iff]; unfold smeB meeB; simp only [Bool.and_eq_true, decide_eq_true_eq]; first | (simp only [hfinG, hfinB, true_and]; omega) | exact ⟨fun e => (by cases e), fun e => (by omega)⟩), rfl⟩)
      · have h3d := bsT h3
        have g'58 := (jn @h3 (jn @h3d g'56))
        refine runTf g'58 ?_
        rcases Bool.eq_false_or_eq_true (thO px py vx vy vd x0 y0 x1 y1) with h4 | h4
        · have h4d := h4
          have hgT := thO_t h4d
          have hbS := (thS_bd hgT.1).2
          obtain ⟨⟨hb1, hb2⟩, hb3, hb4⟩ := hbS
          have hvT := vecB_iff.1 (thG_iff.1 hgT.1).2.1
          have hm1 := mul_bd (a := lo) (b := (thS px py vx vy x0 y0 x1 y1).2.2) (A := 65536) (B := 67108864) (by omega) (by omega)
          have hm2 := mul_bd (a := (thS px py vx vy x0 y0 x1 y1).2.1) (b := vd) (A := 8388608) (B := 67108864) (by omega) (by omega)
          have hm3 := mul_bd (a := (thS px py vx vy x0 y0 x1 y1).1.1) (b := vd) (A := 8388608) (B := 67108864) (by omega) (by omega)
          have hm4 := mul_bd (a := hi) (b := (thS px py vx vy x0 y0 x1 y1).1.2) (A := 65536) (B := 67108864) (by omega) (by omega)
          have hfinG := hgT.1
          have hfinB := hgT.2
          refine call_v (by kernel_rfl) (through_t _ px py vx vy vd x0 y0 x1 y1 (by assumption)) ?_
          have g'59 := (jn @h4 (jn @h4d g'58))
          refine runTf g'59 ?_
          refine gd_split (fun h5 => ?_) (fun h5 => ?_)
          · have h5d := bsT h5
            have g'60 := (jn @h5 (jn @h5d g'59))
            refine runTf g'60 ?_
            exact hQ _ _ (end_plain (.inl rfl) hbel (x := .bool (decide ((((thS px py vx vy x0 y0 x1 y1).1.1) * vd) ≤ (hi * ((thS px py vx vy x0 y0 x1 y1).1.2))))) (resT Tryz.results287) rfl ⟨by first | (rw [hfinN]; done) | (refine congrArg AV.bool ?_; rw [Bool.eq_iff_iff]; unfold smeB meeB; simp only [Bool.and_eq_true, decide_eq_true_eq]; first | (simp only [hfinG, hfinB, true_and]; omega) | exact ⟨fun e => (by cases e), fun e => (by omega)⟩), rfl⟩)
          · have h5d := bsT h5
            have g'61 := (jn @h5 (jn @h5d g'59))
            refine runTf g'61 ?_
            exact hQ _ _ (end_plain (.inl rfl) hbel (x := .bool false) (resT Tryz.results287) rfl ⟨by first | (rw [hfinN]; done) | (refine congrArg AV.bool ?_; rw [Bool.eq_iff_iff]; unfold smeB meeB; simp only [Bool.and_eq_true, decide_eq_true_eq]; first | (simp only [hfinG, hfinB, true_and]; omega) | exact ⟨fun e => (by cases e), fun e => (by omega)⟩), rfl⟩)
        · have h4d := h4
          have hfinN := (thO_me (lo := lo) (hi := hi) h4d).1
          refine call_v (by kernel_rfl) (through_f _ px py vx vy vd x0 y0 x1 y1 (by assumption)) ?_
          have g'62 := (jn @h4 (jn @h4d g'58))
          refine runTf g'62 ?_
          exact hQ _ _ (end_plain (.inl rfl) hbel (x := .bool false) (resT Tryz.results287) rfl ⟨by first | (rw [hfinN]; done) | (refine congrArg AV.bool ?_; rw [Bool.eq_iff_iff]; unfold smeB meeB; simp only [Bool.and_eq_true, decide_eq_true_eq]; first | (simp only [hfinG, hfinB, true_and]; omega) | exact ⟨fun e => (by cases e), fun e => (by omega)⟩), rfl⟩)
    · have h2d := bsT h2
      have g'63 := (jn @h2 (jn @h2d g'55))
      refine runTf g'63 ?_
      exact hQ _ _ (end_plain (.inl rfl) hbel (x := .bool false) (resT Tryz.results287) rfl ⟨by first | (rw [hfinN]; done) | (refine congrArg AV.bool ?_; rw [Bool.eq_iff_iff]; unfold smeB meeB; simp only [Bool.and_eq_true, decide_eq_true_eq]; first | (simp only [hfinG, hfinB, true_and]; omega) | exact ⟨fun e => (by cases e), fun e => (by omega)⟩), rfl⟩)
  · have h1d := bsT h1
    have g'64 := (jn @h1 @h1d)
    refine runTf g'64 ?_
    exact hQ _ _ (end_plain (.inl rfl) hbel (x := .bool false) (resT Tryz.results287) rfl ⟨by first | (rw [hfinN]; done) | (refine congrArg AV.bool ?_; rw [Bool.eq_iff_iff]; unfold smeB meeB; simp only [Bool.and_eq_true, decide_eq_true_eq]; first | (simp only [hfinG, hfinB, true_and]; omega) | exact ⟨fun e => (by cases e), fun e => (by omega)⟩), rfl⟩)
theorem sbefore_c (H : AHeap) (px : Int) (py : Int) (vx : Int) (vy : Int) (vd : Int) (hi : Int) (x0 : Int) (y0 : Int) (x1 : Int) (y1 : Int) : ACalls Tryz.prog 267 [.agg [.int .i64 px, .int .i64 py], .agg [.int .i64 vx, .int .i64 vy, .int .i64 vd], .int .i64 hi, .agg [.int .i64 x0, .int .i64 y0, .int .i64 x1, .int .i64 y1]] H (fun v H' => v = .bool (sbfB px py vx vy vd hi x0 y0 x1 y1) ∧ H' = H) := by
  refine AcT true Tryz.func267 ?_; intro hbel Q hQ
  refine runT ?_
  refine gd_split (fun h1 => ?_) (fun h1 => ?_)
  · have h1d := bsT h1
    have g'65 := (jn @h1 @h1d)
    refine runTf g'65 ?_
    refine cond_split (fun h2 => ?_) (fun h2 => ?_)
    · have h2d := bsT h2
      have g'66 := (jn @h2 (jn @h2d g'65))
      refine runTf g'66 ?_
      exact hQ _ _ (end_plain (.inl rfl) hbel (x := .bool false) (resT Tryz.results267) rfl ⟨by first | (rw [hfinN]; done) | (refine congrArg AV.bool ?_; rw [Bool.eq_iff_iff]; unfold sbfB bfrB; simp only [Bool.and_eq_true, decide_eq_true_eq]; first | (simp only [hfinG, hfinB, true_and]; omega) | exact ⟨fun e => (by cases e), fun e => (by omega)⟩), rfl⟩)
    · have h2d := bsT h2
      have g'67 := (jn @h2 (jn @h2d g'65))
      refine runTf g'67 ?_
      rcases Bool.eq_false_or_eq_true (thO px py vx vy vd x0 y0 x1 y1) with h3 | h3
      · have h3d := h3
        have hgT := thO_t h3d
        have hbS := (thS_bd hgT.1).2
        obtain ⟨⟨hb1, hb2⟩, hb3, hb4⟩ := hbS
        have hvT := vecB_iff.1 (thG_iff.1 hgT.1).2.1
        have hm3 := mul_bd (a := (thS px py vx vy x0 y0 x1 y1).1.1) (b := vd) (A := 8388608) (B := 67108864) (by omega) (by omega)
        have hm4 := mul_bd (a := hi) (b := (thS px py vx vy x0 y0 x1 y1).1.2) (A := 65536) (B := 67108864) (by omega) (by omega)
        have hfinG := hgT.1
        have hfinB := hgT.2
        refine call_v (by kernel_rfl) (through_t _ px py vx vy vd x0 y0 x1 y1 (by assumption)) ?_
        have g'68 := (jn @h3 (jn @h3d g'67))
        refine runTf g'68 ?_
        exact hQ _ _ (end_plain (.inl rfl) hbel (x := .bool (decide ((((thS px py vx vy x0 y0 x1 y1).1.1) * vd) < (hi * ((thS px py vx vy x0 y0 x1 y1).1.2))))) (resT Tryz.results267) rfl ⟨by first | (rw [hfinN]; done) | (refine congrArg AV.bool ?_; rw [Bool.eq_iff_iff]; unfold sbfB bfrB; simp only [Bool.and_eq_true, decide_eq_true_eq]; first | (simp only [hfinG, hfinB, true_and]; omega) | exact ⟨fun e => (by cases e), fun e => (by omega)⟩), rfl⟩)
      · have h3d := h3
        have hfinN := (thO_me (lo := 0) (hi := hi) h3d).2
        refine call_v (by kernel_rfl) (through_f _ px py vx vy vd x0 y0 x1 y1 (by assumption)) ?_
        have g'69 := (jn @h3 (jn @h3d g'67))
        refine runTf g'69 ?_
        exact hQ _ _ (end_plain (.inl rfl) hbel (x := .bool false) (resT Tryz.results267) rfl ⟨by first | (rw [hfinN]; done) | (refine congrArg AV.bool ?_; rw [Bool.eq_iff_iff]; unfold sbfB bfrB; simp only [Bool.and_eq_true, decide_eq_true_eq]; first | (simp only [hfinG, hfinB, true_and]; omega) | exact ⟨fun e => (by cases e), fun e => (by omega)⟩), rfl⟩)
  · have h1d := bsT h1
    have g'70 := (jn @h1 @h1d)
    refine runTf g'70 ?_
    exact hQ _ _ (end_plain (.inl rfl) hbel (x := .bool false) (resT Tryz.results267) rfl ⟨by first | (rw [hfinN]; done) | (refine congrArg AV.bool ?_; rw [Bool.eq_iff_iff]; unfold sbfB bfrB; simp only [Bool.and_eq_true, decide_eq_true_eq]; first | (simp only [hfinG, hfinB, true_and]; omega) | exact ⟨fun e => (by cases e), fun e => (by omega)⟩), rfl⟩)
theorem sminus_c (H : AHeap) (a0 : Int) (b0 : Int) (a1 : Int) (b1 : Int) (x0 : Int) (y0 : Int) (x1 : Int) (y1 : Int) (kba0 : -1099511627776 ≤ a0 ∧ a0 ≤ 1099511627776) (kbb0 : -1099511627776 ≤ b0 ∧ b0 ≤ 1099511627776) (kba1 : -1099511627776 ≤ a1 ∧ a1 ≤ 1099511627776) (kbb1 : -1099511627776 ≤ b1 ∧ b1 ≤ 1099511627776) (kbx0 : -1099511627776 ≤ x0 ∧ x0 ≤ 1099511627776) (kby0 : -1099511627776 ≤ y0 ∧ y0 ≤ 1099511627776) (kbx1 : -1099511627776 ≤ x1 ∧ x1 ≤ 1099511627776) (kby1 : -1099511627776 ≤ y1 ∧ y1 ≤ 1099511627776) : ACalls Tryz.prog 286 [.agg [.int .i64 a0, .int .i64 b0, .int .i64 a1, .int .i64 b1], .agg [.int .i64 x0, .int .i64 y0, .int .i64 x1, .int .i64 y1]] H (fun v H' => v = .tup [.agg [.int .i64 (mkV (mnsB a0 b0 a1 b1 x0 y0 x1 y1) (a0 - x1)), .int .i64 (mkV (mnsB a0 b0 a1 b1 x0 y0 x1 y1) (b0 - y1)), .int .i64 (mkV (mnsB a0 b0 a1 b1 x0 y0 x1 y1) (a1 - x0)), .int .i64 (mkV (mnsB a0 b0 a1 b1 x0 y0 x1 y1) (b1 - y0))], .bool (mnsB a0 b0 a1 b1 x0 y0 x1 y1)] ∧ H' = H) := by
  refine AcT true Tryz.func286 ?_; intro hbel Q hQ
  refine runT ?_
  refine call_v (by kernel_rfl) (svrc_c _ a0 b0 a1 b1) ?_
  refine runT ?_
  refine gd_split (fun h1 => ?_) (fun h1 => ?_)
  · have h1d := bsT h1
    have g'71 := (jn @h1 @h1d)
    refine runTf g'71 ?_
    refine call_v (by kernel_rfl) (svrc_c _ x0 y0 x1 y1) ?_
    refine runTf g'71 ?_
    refine gd_split (fun h2 => ?_) (fun h2 => ?_)
    · have h2d := bsT h2
      have g'72 := (jn @h2 (jn @h2d g'71))
      refine runTf g'72 ?_
      refine call_v (by kernel_rfl) (svrc_c _ (a0 - x1) (b0 - y1) (a1 - x0) (b1 - y0)) ?_
      refine runTf g'72 ?_
      refine cond_split (fun h3 => ?_) (fun h3 => ?_)
      · have h3d := bsT h3
        have g'73 := (jn @h3 (jn @h3d g'72))
        refine runTf g'73 ?_
        exact hQ _ _ (end_plain (.inl rfl) hbel (x := .tup [.agg [.int .i64 0, .int .i64 0, .int .i64 0, .int .i64 0], .bool false]) (resT Tryz.results286) rfl ⟨by simp [mnsB, mkV, h1d, h2d, h3d], rfl⟩)
      · have h3d := bsT h3
        have g'74 := (jn @h3 (jn @h3d g'72))
        refine runTf g'74 ?_
        exact hQ _ _ (end_plain (.inl rfl) hbel (x := .tup [.agg [.int .i64 (a0 - x1), .int .i64 (b0 - y1), .int .i64 (a1 - x0), .int .i64 (b1 - y0)], .bool true]) (resT Tryz.results286) rfl ⟨by simp [mnsB, mkV, h1d, h2d, h3d], rfl⟩)
    · have h2d := bsT h2
      have g'75 := (jn @h2 (jn @h2d g'71))
      refine runTf g'75 ?_
      exact hQ _ _ (end_plain (.inl rfl) hbel (x := .tup [.agg [.int .i64 0, .int .i64 0, .int .i64 0, .int .i64 0], .bool false]) (resT Tryz.results286) rfl ⟨by simp [mnsB, mkV, h1d, h2d], rfl⟩)
  · have h1d := bsT h1
    have g'76 := (jn @h1 @h1d)
    refine runTf g'76 ?_
    exact hQ _ _ (end_plain (.inl rfl) hbel (x := .tup [.agg [.int .i64 0, .int .i64 0, .int .i64 0, .int .i64 0], .bool false]) (resT Tryz.results286) rfl ⟨by simp [mnsB, mkV, h1d], rfl⟩)
open Go.RowKit
theorem pwithin_c (H : AHeap) (x : Int) (m : Int) (h : 0 ≤ m ∧ m ≤ 4611686018427387904) : ACalls Tryz.prog 200 [.int .i64 x, .int .i64 m] H (fun v H' => v = .bool (within x m) ∧ H' = H) := by
  refine AcT true Tryz.func200 ?_; intro hbel Q hQ
  refine runT ?_
  refine gd_split (fun h1 => ?_) (fun h1 => ?_)
  · have h1d := bsT h1
    have g'1 := (jn @h1 @h1d)
    refine runTf g'1 ?_
    exact hQ _ _ (end_plain0 (.inl rfl) hbel (x := .bool (decide (x ≤ m))) (resT Tryz.results200) rfl ⟨by first | (simp [within, h1d]; done) | (simp [within, h1d]; omega), rfl⟩)
  · have h1d := bsT h1
    have g'2 := (jn @h1 @h1d)
    refine runTf g'2 ?_
    exact hQ _ _ (end_plain0 (.inl rfl) hbel (x := .bool false) (resT Tryz.results200) rfl ⟨by first | (simp [within, h1d]; done) | (simp [within, h1d]; omega), rfl⟩)
theorem pvpt_c (H : AHeap) (x : Int) (y : Int) : ACalls Tryz.prog 197 [.agg [.int .i64 x, .int .i64 y]] H (fun v H' => v = .bool (ptB x y) ∧ H' = H) := by
  refine AcT true Tryz.func197 ?_; intro hbel Q hQ
  refine runT ?_
  refine call_v (by kernel_rfl) (pwithin_c _ x 1048576 (by decide)) ?_
  refine runT ?_
  refine gd_split (fun h1 => ?_) (fun h1 => ?_)
  · have h1d := bsT h1
    have g'3 := (jn @h1 @h1d)
    refine runTf g'3 ?_
    refine call_v (by kernel_rfl) (pwithin_c _ y 1048576 (by decide)) ?_
    refine runTf g'3 ?_
    exact hQ _ _ (end_plain (.inl rfl) hbel (x := .bool (within y 1048576)) (resT Tryz.results197) rfl ⟨by simp [ptB, h1d], rfl⟩)
  · have h1d := bsT h1
    have g'4 := (jn @h1 @h1d)
    refine runTf g'4 ?_
    exact hQ _ _ (end_plain (.inl rfl) hbel (x := .bool false) (resT Tryz.results197) rfl ⟨by simp [ptB, h1d], rfl⟩)
theorem pvrc_c (H : AHeap) (x0 : Int) (y0 : Int) (x1 : Int) (y1 : Int) : ACalls Tryz.prog 228 [.agg [.int .i64 x0, .int .i64 y0, .int .i64 x1, .int .i64 y1]] H (fun v H' => v = .bool (rctB x0 y0 x1 y1) ∧ H' = H) := by
  refine AcT true Tryz.func228 ?_; intro hbel Q hQ
  refine runT ?_
  refine gd_split (fun h1 => ?_) (fun h1 => ?_)
  · have h1d := bsT h1
    have g'5 := (jn @h1 @h1d)
    refine runTf g'5 ?_
    refine gd_split (fun h2 => ?_) (fun h2 => ?_)
    · have h2d := bsT h2
      have g'6 := (jn @h2 (jn @h2d g'5))
      refine runTf g'6 ?_
      refine call_v (by kernel_rfl) (pvpt_c _ x0 y0) ?_
      refine runTf g'6 ?_
      refine gd_split (fun h3 => ?_) (fun h3 => ?_)
      · have h3d := bsT h3
        have g'7 := (jn @h3 (jn @h3d g'6))
        refine runTf g'7 ?_
        refine call_v (by kernel_rfl) (pvpt_c _ x1 y1) ?_
        refine runTf g'7 ?_
        exact hQ _ _ (end_plain (.inl rfl) hbel (x := .bool (ptB x1 y1)) (resT Tryz.results228) rfl ⟨by simp [rctB, h1d, h2d, h3d], rfl⟩)
      · have h3d := bsT h3
        have g'8 := (jn @h3 (jn @h3d g'6))
        refine runTf g'8 ?_
        exact hQ _ _ (end_plain (.inl rfl) hbel (x := .bool false) (resT Tryz.results228) rfl ⟨by simp [rctB, h1d, h2d, h3d], rfl⟩)
    · have h2d := bsT h2
      have g'9 := (jn @h2 (jn @h2d g'5))
      refine runTf g'9 ?_
      exact hQ _ _ (end_plain (.inl rfl) hbel (x := .bool false) (resT Tryz.results228) rfl ⟨by simp [rctB, h1d, h2d], rfl⟩)
  · have h1d := bsT h1
    have g'10 := (jn @h1 @h1d)
    refine runTf g'10 ?_
    exact hQ _ _ (end_plain (.inl rfl) hbel (x := .bool false) (resT Tryz.results228) rfl ⟨by simp [rctB, h1d], rfl⟩)
theorem span_c (H : AHeap) (a : Int) (b : Int) (kba : -2097152 ≤ a ∧ a ≤ 2097152) (kbb : -2097152 ≤ b ∧ b ≤ 2097152) : ACalls Tryz.prog 285 [.int .i64 a, .int .i64 b] H (fun v H' => v = .tup [.int .i64 (spl a), .int .i64 (sph b)] ∧ H' = H) := by
  refine AcT true Tryz.func285 ?_; intro hbel Q hQ
  refine runT ?_
  refine call_v (by kernel_rfl) (pdown_c _ (0 - a) 64 (by omega) (by omega)) ?_
  refine runT ?_
  refine call_v (by kernel_rfl) (pdown_c _ b 64 (by omega) (by omega)) ?_
  refine runT ?_
  exact hQ _ _ (end_plain0 (.inl rfl) hbel (x := .tup [.int .i64 ((0 - ((0 - a) / 64)) - 1), .int .i64 (b / 64)]) (resT Tryz.results285) rfl ⟨rfl, rfl⟩)
open Go.RowKit
theorem grid_bd2 {p : Int → Int → Bool} {x0 y0 y : Int} {w n m : Nat} (hn : n ≤ 33000) (hw : w ≤ 33000) (hm : m ≤ w) : (gridR p x0 w y0 n).length + (rowR p x0 y m).length ≤ 1089033000 := by
  have h1 := gridR_len (p := p) (x0 := x0) (y0 := y0) (w := w) n
  have h2 := rowR_len (p := p) (x0 := x0) (y := y) m
  have h3 := Nat.mul_le_mul hn hw
  omega
def rngB (lo hi : Int) : Bool := decide (0 ≤ lo) && (decide (lo ≤ hi) && decide (hi ≤ 2048))
/-- What Traced and Swept hand back: an error, and the cells. -/
def trE (px py vx vy vd lo hi : Int) : Int := if (ptB px py && vecB vx vy vd) = true then (if rngB lo hi = true then 0 else 2) else 1
def trL (px py vx vy vd lo hi : Int) : List (Int × Int) := mkL (trE px py vx vy vd lo hi) (swpL px py px py vx vy vd lo hi)
def sptE (x0 y0 x1 y1 vx vy vd lo hi : Int) : Int := if (rctB x0 y0 x1 y1 && vecB vx vy vd) = true then (if rngB lo hi = true then (if 1024 < x1 - x0 ∨ 1024 < y1 - y0 then 6 else 0) else 2) else 1
def sptL (x0 y0 x1 y1 vx vy vd lo hi : Int) : List (Int × Int) := mkL (sptE x0 y0 x1 y1 vx vy vd lo hi) (swpL x0 y0 x1 y1 vx vy vd lo hi)
theorem rngB_iff {lo hi : Int} : rngB lo hi = true ↔ 0 ≤ lo ∧ lo ≤ hi ∧ hi ≤ 2048 := by unfold rngB; simp only [Bool.and_eq_true, decide_eq_true_eq]
theorem ptB_iff {x y : Int} : ptB x y = true ↔ (-1048576 ≤ x ∧ x ≤ 1048576) ∧ -1048576 ≤ y ∧ y ≤ 1048576 := by unfold ptB; rw [Bool.and_eq_true, within_iff, within_iff]
theorem trE_1 {px py vx vy vd lo hi : Int} (h : ¬ (ptB px py = true ∧ vecB vx vy vd = true)) : trE px py vx vy vd lo hi = 1 ∧ trL px py vx vy vd lo hi = [] := by
  have e : trE px py vx vy vd lo hi = 1 := if_neg (by rw [Bool.and_eq_true]; exact h)
  exact ⟨e, if_neg (by rw [e]; decide)⟩
theorem trE_2 {px py vx vy vd lo hi : Int} (h1 : ptB px py = true) (h2 : vecB vx vy vd = true) (h : ¬ (0 ≤ lo ∧ lo ≤ hi ∧ hi ≤ 2048)) : trE px py vx vy vd lo hi = 2 ∧ trL px py vx vy vd lo hi = [] := by
  have e : trE px py vx vy vd lo hi = 2 := by unfold trE; rw [h1, h2, if_pos (show (true && true) = true from rfl), if_neg (by rw [rngB_iff]; exact h)]
  exact ⟨e, if_neg (by rw [e]; decide)⟩
theorem trE_0 {px py vx vy vd lo hi : Int} (h1 : ptB px py = true) (h2 : vecB vx vy vd = true) (h : 0 ≤ lo ∧ lo ≤ hi ∧ hi ≤ 2048) : trE px py vx vy vd lo hi = 0 ∧ trL px py vx vy vd lo hi = swpL px py px py vx vy vd lo hi := by
  have e : trE px py vx vy vd lo hi = 0 := by unfold trE; rw [h1, h2, if_pos (show (true && true) = true from rfl), if_pos (rngB_iff.2 h)]
  exact ⟨e, if_pos e⟩
theorem sptE_1 {x0 y0 x1 y1 vx vy vd lo hi : Int} (h : ¬ (rctB x0 y0 x1 y1 = true ∧ vecB vx vy vd = true)) : sptE x0 y0 x1 y1 vx vy vd lo hi = 1 ∧ sptL x0 y0 x1 y1 vx vy vd lo hi = [] := by
  have e : sptE x0 y0 x1 y1 vx vy vd lo hi = 1 := if_neg (by rw [Bool.and_eq_true]; exact h)
  exact ⟨e, if_neg (by rw [e]; decide)⟩
theorem sptE_2 {x0 y0 x1 y1 vx vy vd lo hi : Int} (h1 : rctB x0 y0 x1 y1 = true) (h2 : vecB vx vy vd = true) (h : ¬ (0 ≤ lo ∧ lo ≤ hi ∧ hi ≤ 2048)) : sptE x0 y0 x1 y1 vx vy vd lo hi = 2 ∧ sptL x0 y0 x1 y1 vx vy vd lo hi = [] := by
  have e : sptE x0 y0 x1 y1 vx vy vd lo hi = 2 := by unfold sptE; rw [h1, h2, if_pos (show (true && true) = true from rfl), if_neg (by rw [rngB_iff]; exact h)]
  exact ⟨e, if_neg (by rw [e]; decide)⟩
theorem sptE_6 {x0 y0 x1 y1 vx vy vd lo hi : Int} (h1 : rctB x0 y0 x1 y1 = true) (h2 : vecB vx vy vd = true) (h : 0 ≤ lo ∧ lo ≤ hi ∧ hi ≤ 2048) (k : 1024 < x1 - x0 ∨ 1024 < y1 - y0) : sptE x0 y0 x1 y1 vx vy vd lo hi = 6 ∧ sptL x0 y0 x1 y1 vx vy vd lo hi = [] := by
  have e : sptE x0 y0 x1 y1 vx vy vd lo hi = 6 := by unfold sptE; rw [h1, h2, if_pos (show (true && true) = true from rfl), if_pos (rngB_iff.2 h), if_pos k]
  exact ⟨e, if_neg (by rw [e]; decide)⟩
theorem sptE_0 {x0 y0 x1 y1 vx vy vd lo hi : Int} (h1 : rctB x0 y0 x1 y1 = true) (h2 : vecB vx vy vd = true) (h : 0 ≤ lo ∧ lo ≤ hi ∧ hi ≤ 2048) (k : ¬ (1024 < x1 - x0 ∨ 1024 < y1 - y0)) : sptE x0 y0 x1 y1 vx vy vd lo hi = 0 ∧ sptL x0 y0 x1 y1 vx vy vd lo hi = swpL x0 y0 x1 y1 vx vy vd lo hi := by
  have e : sptE x0 y0 x1 y1 vx vy vd lo hi = 0 := by unfold sptE; rw [h1, h2, if_pos (show (true && true) = true from rfl), if_pos (rngB_iff.2 h), if_neg k]
  exact ⟨e, if_pos e⟩
/-- How many cells a sweep can have. -/
theorem swpL_len {x0 y0 x1 y1 vx vy vd lo hi : Int} (hx : -1048576 ≤ x0 ∧ x0 ≤ x1 ∧ x1 ≤ 1048576) (hy : -1048576 ≤ y0 ∧ y0 ≤ y1 ∧ y1 ≤ 1048576) (hv : vecB vx vy vd = true) (h : 0 ≤ lo ∧ lo ≤ hi ∧ hi ≤ 2048) : (swpL x0 y0 x1 y1 vx vy vd lo hi).length ≤ celN (rchL x0 vx vd lo hi) (rchH x1 vx vd lo hi) * celN (rchL y0 vy vd lo hi) (rchH y1 vy vd lo hi) := by
  have := gridR_len (p := swpP x0 y0 x1 y1 vx vy vd lo hi) (x0 := spl (rchL x0 vx vd lo hi)) (y0 := spl (rchL y0 vy vd lo hi)) (w := celN (rchL x0 vx vd lo hi) (rchH x1 vx vd lo hi)) (celN (rchL y0 vy vd lo hi) (rchH y1 vy vd lo hi))
  unfold swpL; rw [Nat.mul_comm]; exact this
theorem swp_cel {a b n d lo hi : Int} (hd : 0 < d) (hn : -d ≤ n ∧ n ≤ d) (h0 : 0 ≤ lo) (hh : lo ≤ hi) (h1 : hi ≤ 2048) (hab : a ≤ b ∧ b ≤ a + 1024) : celN (rchL a n d lo hi) (rchH b n d lo hi) ≤ 85 := by
  have r := rch_bd (a := a) (b := b) hd hn h0 hh h1
  unfold celN spl sph; omega
theorem trE_z {px py vx vy vd lo hi : Int} (h : trE px py vx vy vd lo hi = 0) : ptB px py = true ∧ vecB vx vy vd = true ∧ 0 ≤ lo ∧ lo ≤ hi ∧ hi ≤ 2048 := by
  unfold trE at h
  split at h
  · rename_i hv
    rw [Bool.and_eq_true] at hv
    split at h
    · rename_i hr; exact ⟨hv.1, hv.2, rngB_iff.1 hr⟩
    · omega
  · omega
theorem sptE_z {x0 y0 x1 y1 vx vy vd lo hi : Int} (h : sptE x0 y0 x1 y1 vx vy vd lo hi = 0) : rctB x0 y0 x1 y1 = true ∧ vecB vx vy vd = true ∧ (0 ≤ lo ∧ lo ≤ hi ∧ hi ≤ 2048) ∧ ¬ (1024 < x1 - x0 ∨ 1024 < y1 - y0) := by
  unfold sptE at h
  split at h
  · rename_i hv
    rw [Bool.and_eq_true] at hv
    split at h
    · rename_i hr
      split at h
      · omega
      · rename_i hk; exact ⟨hv.1, hv.2, rngB_iff.1 hr, hk⟩
    · omega
  · omega
theorem sptL_len (x0 y0 x1 y1 vx vy vd lo hi : Int) : (sptL x0 y0 x1 y1 vx vy vd lo hi).length ≤ 7225 := by
  unfold sptL mkL
  split
  · rename_i h
    obtain ⟨h1, h2, hr, hk⟩ := sptE_z h
    have hq := rctB_iff.1 h1
    have hvv := vecB_iff.1 h2
    have l := swpL_len hq.1 hq.2 h2 hr
    have c1 := swp_cel (a := x0) (b := x1) (n := vx) (d := vd) (lo := lo) (hi := hi) (by omega) (by omega) hr.1 hr.2.1 hr.2.2 (by omega)
    have c2 := swp_cel (a := y0) (b := y1) (n := vy) (d := vd) (lo := lo) (hi := hi) (by omega) (by omega) hr.1 hr.2.1 hr.2.2 (by omega)
    exact Nat.le_trans l (Nat.mul_le_mul c1 c2)
  · simp
theorem trL_len (px py vx vy vd lo hi : Int) : (trL px py vx vy vd lo hi).length ≤ 7225 := by
  unfold trL mkL
  split
  · rename_i h
    obtain ⟨h1, h2, hr⟩ := trE_z h
    have hq := ptB_iff.1 h1
    have hvv := vecB_iff.1 h2
    have l := swpL_len (x0 := px) (x1 := px) (y0 := py) (y1 := py) (by omega) (by omega) h2 hr
    have c1 := swp_cel (a := px) (b := px) (n := vx) (d := vd) (lo := lo) (hi := hi) (by omega) (by omega) hr.1 hr.2.1 hr.2.2 (by omega)
    have c2 := swp_cel (a := py) (b := py) (n := vy) (d := vd) (lo := lo) (hi := hi) (by omega) (by omega) hr.1 hr.2.1 hr.2.2 (by omega)
    exact Nat.le_trans l (Nat.mul_le_mul c1 c2)
  · simp
theorem pvv_c (H : AHeap) (vx : Int) (vy : Int) (vd : Int) : ACalls Tryz.prog 229 [.agg [.int .i64 vx, .int .i64 vy, .int .i64 vd]] H (fun v H' => v = .bool (vecB vx vy vd) ∧ H' = H) := by
  refine AcT true Tryz.func229 ?_; intro hbel Q hQ
  refine runT ?_
  refine gd_split (fun h1 => ?_) (fun h1 => ?_)
  · have h1d := bsT h1
    have g'1 := (jn @h1 @h1d)
    refine runTf g'1 ?_
    refine gd_split (fun h2 => ?_) (fun h2 => ?_)
    · have h2d := bsT h2
      have g'2 := (jn @h2 (jn @h2d g'1))
      refine runTf g'2 ?_
      refine call_v (by kernel_rfl) (pwithin_c _ vx vd (by omega)) ?_
      refine runTf g'2 ?_
      refine gd_split (fun h3 => ?_) (fun h3 => ?_)
      · have h3d := bsT h3
        have hwx := within_iff.1 h3d
        have g'3 := (jn @h3 (jn @h3d g'2))
        refine runTf g'3 ?_
        refine call_v (by kernel_rfl) (pwithin_c _ vy vd (by omega)) ?_
        refine runTf g'3 ?_
        refine gd_split (fun h4 => ?_) (fun h4 => ?_)
        · have h4d := bsT h4
          have hwy := within_iff.1 h4d
          have hm1 := mul_bd (a := vx) (b := vx) (A := 67108864) (B := 67108864) (by omega) (by omega)
          have hm2 := mul_bd (a := vy) (b := vy) (A := 67108864) (B := 67108864) (by omega) (by omega)
          have hm3 := mul_bd (a := vd) (b := vd) (A := 67108864) (B := 67108864) (by omega) (by omega)
          have g'4 := (jn @h4 (jn @h4d g'3))
          refine runTf g'4 ?_
          exact hQ _ _ (end_plain (.inl rfl) hbel (x := .bool (((vx * vx) + (vy * vy)) == (vd * vd))) (resT Tryz.results229) rfl ⟨by first | (refine congrArg AV.bool ?_; rw [Bool.eq_iff_iff, vecB_iff, beq_iff_eq]; exact ⟨fun e => ⟨⟨by omega, by omega⟩, ⟨by omega, by omega⟩, ⟨by omega, by omega⟩, e⟩, fun e => e.2.2.2⟩) | (refine congrArg AV.bool ?_; rw [Bool.eq_iff_iff, vecB_iff]; exact ⟨fun e => (by cases e), fun k => (by omega)⟩), rfl⟩)
        · have h4d := bsT h4
          have hwy : ¬ (-vd ≤ vy ∧ vy ≤ vd) := mt within_iff.2 (by rw [h4d]; decide)
          have g'5 := (jn @h4 (jn @h4d g'3))
          refine runTf g'5 ?_
          exact hQ _ _ (end_plain (.inl rfl) hbel (x := .bool false) (resT Tryz.results229) rfl ⟨by first | (refine congrArg AV.bool ?_; rw [Bool.eq_iff_iff, vecB_iff, beq_iff_eq]; exact ⟨fun e => ⟨⟨by omega, by omega⟩, ⟨by omega, by omega⟩, ⟨by omega, by omega⟩, e⟩, fun e => e.2.2.2⟩) | (refine congrArg AV.bool ?_; rw [Bool.eq_iff_iff, vecB_iff]; exact ⟨fun e => (by cases e), fun k => (by omega)⟩), rfl⟩)
      · have h3d := bsT h3
        have hwx : ¬ (-vd ≤ vx ∧ vx ≤ vd) := mt within_iff.2 (by rw [h3d]; decide)
        have g'6 := (jn @h3 (jn @h3d g'2))
        refine runTf g'6 ?_
        exact hQ _ _ (end_plain (.inl rfl) hbel (x := .bool false) (resT Tryz.results229) rfl ⟨by first | (refine congrArg AV.bool ?_; rw [Bool.eq_iff_iff, vecB_iff, beq_iff_eq]; exact ⟨fun e => ⟨⟨by omega, by omega⟩, ⟨by omega, by omega⟩, ⟨by omega, by omega⟩, e⟩, fun e => e.2.2.2⟩) | (refine congrArg AV.bool ?_; rw [Bool.eq_iff_iff, vecB_iff]; exact ⟨fun e => (by cases e), fun k => (by omega)⟩), rfl⟩)
    · have h2d := bsT h2
      have g'7 := (jn @h2 (jn @h2d g'1))
      refine runTf g'7 ?_
      exact hQ _ _ (end_plain (.inl rfl) hbel (x := .bool false) (resT Tryz.results229) rfl ⟨by first | (refine congrArg AV.bool ?_; rw [Bool.eq_iff_iff, vecB_iff, beq_iff_eq]; exact ⟨fun e => ⟨⟨by omega, by omega⟩, ⟨by omega, by omega⟩, ⟨by omega, by omega⟩, e⟩, fun e => e.2.2.2⟩) | (refine congrArg AV.bool ?_; rw [Bool.eq_iff_iff, vecB_iff]; exact ⟨fun e => (by cases e), fun k => (by omega)⟩), rfl⟩)
  · have h1d := bsT h1
    have g'8 := (jn @h1 @h1d)
    refine runTf g'8 ?_
    exact hQ _ _ (end_plain (.inl rfl) hbel (x := .bool false) (resT Tryz.results229) rfl ⟨by first | (refine congrArg AV.bool ?_; rw [Bool.eq_iff_iff, vecB_iff, beq_iff_eq]; exact ⟨fun e => ⟨⟨by omega, by omega⟩, ⟨by omega, by omega⟩, ⟨by omega, by omega⟩, e⟩, fun e => e.2.2.2⟩) | (refine congrArg AV.bool ?_; rw [Bool.eq_iff_iff, vecB_iff]; exact ⟨fun e => (by cases e), fun k => (by omega)⟩), rfl⟩)
theorem psquare_c (H : AHeap) (x : Int) (y : Int) (kbx : -2097152 ≤ x ∧ x ≤ 2097152) (kby : -2097152 ≤ y ∧ y ≤ 2097152) : ACalls Tryz.prog 201 [.agg [.int .i64 x, .int .i64 y]] H (fun v H' => v = .agg [.int .i64 (x * 64), .int .i64 (y * 64), .int .i64 (x * 64 + 64), .int .i64 (y * 64 + 64)] ∧ H' = H) := by
  refine AcT true Tryz.func201 ?_; intro hbel Q hQ
  refine runT ?_
  exact hQ _ _ (end_plain (.inl rfl) hbel (x := .agg [.int .i64 (x * 64), .int .i64 (y * 64), .int .i64 ((x * 64) + 64), .int .i64 ((y * 64) + 64)]) (resT Tryz.results201) rfl ⟨rfl, rfl⟩)
theorem reach_c (H : AHeap) (a : Int) (b : Int) (n : Int) (d : Int) (lo : Int) (hi : Int) (ha : -1048576 ≤ a ∧ a ≤ 1048576) (hb : -1048576 ≤ b ∧ b ≤ 1048576) (hd : 1 ≤ d ∧ d ≤ 67108864) (hn : -d ≤ n ∧ n ≤ d) (h0 : 0 ≤ lo) (hh : lo ≤ hi) (h1 : hi ≤ 2048) : ACalls Tryz.prog 284 [.int .i64 a, .int .i64 b, .int .i64 n, .int .i64 d, .int .i64 lo, .int .i64 hi] H (fun v H' => v = .tup [.int .i64 (rchL a n d lo hi), .int .i64 (rchH b n d lo hi)] ∧ H' = H) := by
  have hm1 := mul_bd (a := lo) (b := n) (A := 2048) (B := 67108864) (by omega) (by omega)
  have hm2 := mul_bd (a := hi) (b := n) (A := 2048) (B := 67108864) (by omega) (by omega)
  have hr := rch_bd (a := a) (b := b) (n := n) (d := d) (lo := lo) (hi := hi) (by omega) hn h0 hh h1
  unfold rchL rchH at hr
  have hmn : -137438953472 ≤ (if hi * n < lo * n then hi * n else lo * n) ∧ (if hi * n < lo * n then hi * n else lo * n) ≤ 137438953472 := by split <;> omega
  have hmx : -137438953472 ≤ (if lo * n < hi * n then hi * n else lo * n) ∧ (if lo * n < hi * n then hi * n else lo * n) ≤ 137438953472 := by split <;> omega
  refine AcT true Tryz.func284 ?_; intro hbel Q hQ
  refine runT ?_
  refine call_v (by kernel_rfl) (pdown_c _ (if (hi * n) < (lo * n) then (hi * n) else (lo * n)) d (by omega) (by omega)) ?_
  refine runT ?_
  refine call_v (by kernel_rfl) (pdown_c _ (if (lo * n) < (hi * n) then (hi * n) else (lo * n)) d (by omega) (by omega)) ?_
  refine runT ?_
  exact hQ _ _ (end_plain0 (.inl rfl) hbel (x := .tup [.int .i64 (a + ((if (hi * n) < (lo * n) then (hi * n) else (lo * n)) / d)), .int .i64 ((b + ((if (lo * n) < (hi * n) then (hi * n) else (lo * n)) / d)) + 1)]) (resT Tryz.results284) rfl ⟨rfl, rfl⟩)
theorem psweep_c (H : AHeap) (x0 : Int) (y0 : Int) (x1 : Int) (y1 : Int) (vx : Int) (vy : Int) (vd : Int) (lo : Int) (hi : Int) (hx : -1048576 ≤ x0 ∧ x0 ≤ x1 ∧ x1 ≤ 1048576) (hy : -1048576 ≤ y0 ∧ y0 ≤ y1 ∧ y1 ≤ 1048576) (hv : vecB vx vy vd = true) (hl : 0 ≤ lo ∧ lo ≤ hi ∧ hi ≤ 2048) : ACalls Tryz.prog 230 [.agg [.int .i64 x0, .int .i64 y0, .int .i64 x1, .int .i64 y1], .agg [.int .i64 vx, .int .i64 vy, .int .i64 vd], .int .i64 lo, .int .i64 hi] H (fun v H' => v = .sl (some (H.length, 0)) ((swpL x0 y0 x1 y1 vx vy vd lo hi).length) (capG (swpL x0 y0 x1 y1 vx vy vd lo hi).length) ∧ H' = H ++ [.cells (ownG (swpL x0 y0 x1 y1 vx vy vd lo hi).length) 2 (prs (swpL x0 y0 x1 y1 vx vy vd lo hi))]) := by
  have hvv := vecB_iff.1 hv
  have hrx := rch_bd (a := x0) (b := x1) (n := vx) (d := vd) (lo := lo) (hi := hi) (by omega) (by omega) (by omega) (by omega) (by omega)
  have hry := rch_bd (a := y0) (b := y1) (n := vy) (d := vd) (lo := lo) (hi := hi) (by omega) (by omega) (by omega) (by omega) (by omega)
  have hcx := cel_bd2 (a := (rchL x0 vx vd lo hi)) (b := (rchH x1 vx vd lo hi)) (by omega)
  have hcy := cel_bd2 (a := (rchL y0 vy vd lo hi)) (b := (rchH y1 vy vd lo hi)) (by omega)
  refine AcL true Tryz.func230 ?_; intro hbel Q hQ
  refine runT ?_
  refine call_v (by kernel_rfl) (reach_c _ x0 x1 vx vd lo hi (by omega) (by omega) (by omega) (by omega) (by omega) (by omega) (by omega)) ?_
  refine runT ?_
  refine call_v (by kernel_rfl) (reach_c _ y0 y1 vy vd lo hi (by omega) (by omega) (by omega) (by omega) (by omega) (by omega) (by omega)) ?_
  refine runT ?_
  refine call_v (by kernel_rfl) (span_c _ (rchL x0 vx vd lo hi) (rchH x1 vx vd lo hi) (by omega) (by omega)) ?_
  refine runT ?_
  refine call_v (by kernel_rfl) (span_c _ (rchL y0 vy vd lo hi) (rchH y1 vy vd lo hi) (by omega) (by omega)) ?_
  refine runT ?_
  refine go_loopA (fun k F Hx => ∃ n : Nat, n + k = celN (rchL y0 vy vd lo hi) (rchH y1 vy vd lo hi) ∧ F = [(2, .int .i64 lo), (3, .int .i64 hi), (4, .ptr (some (H.length, 0))), (5, .ptr (some (H.length + 1, 0))), (13, .int .i64 (spl (rchL x0 vx vd lo hi))), (14, .int .i64 (sph (rchH x1 vx vd lo hi))), (16, .int .i64 (sph (rchH y1 vy vd lo hi))), (17, .sl (some (H.length + 2, 0)) ((gridR (swpP x0 y0 x1 y1 vx vy vd lo hi) (spl (rchL x0 vx vd lo hi)) (celN (rchL x0 vx vd lo hi) (rchH x1 vx vd lo hi)) (spl (rchL y0 vy vd lo hi)) n).length) (capG (gridR (swpP x0 y0 x1 y1 vx vy vd lo hi) (spl (rchL x0 vx vd lo hi)) (celN (rchL x0 vx vd lo hi) (rchH x1 vx vd lo hi)) (spl (rchL y0 vy vd lo hi)) n).length)), (18, .int .i64 ((spl (rchL y0 vy vd lo hi)) + ((n : Nat) : Int)))] ∧ Hx = H ++ [.cells true 0 [.int .i64 x0, .int .i64 y0, .int .i64 x1, .int .i64 y1], .cells true 0 [.int .i64 vx, .int .i64 vy, .int .i64 vd], .cells (ownG (gridR (swpP x0 y0 x1 y1 vx vy vd lo hi) (spl (rchL x0 vx vd lo hi)) (celN (rchL x0 vx vd lo hi) (rchH x1 vx vd lo hi)) (spl (rchL y0 vy vd lo hi)) n).length) 2 (prs (gridR (swpP x0 y0 x1 y1 vx vy vd lo hi) (spl (rchL x0 vx vd lo hi)) (celN (rchL x0 vx vd lo hi) (rchH x1 vx vd lo hi)) (spl (rchL y0 vy vd lo hi)) n))]) (celN (rchL y0 vy vd lo hi) (rchH y1 vy vd lo hi)) ?_ ?_
  · refine ⟨_, _, _, ⟨0, by omega, rfl, rfl⟩, Abs.byG hbel [.cells false 2 []] rfl [0, 1, 2] (by decide) ?_⟩
    exact absRf (jn @gridR_0 (jn @Int.natCast_zero @Int.add_zero))
  · rintro k0 F Hx ⟨n, hm0, rfl, rfl⟩ Q1 hJ0 hr1 he1
    have hQ1 := fun F H' h => hr1 F H' (hQ F H' h)
    refine AW_seqQ fun Q2 hn2 hr2 he2 => ?_
    have hQ2 := fun F H' h => hr2 F H' (hQ1 F H' h)
    refine AW_fin true try_mixed (by kernel_rfl) ?_
    have g'9 := (jn @prs_len @prs_one)
    refine runTf g'9 ?_
    refine cond_split (fun h1 => ?_) (fun h1 => ?_)
    · have h1d := bsT h1
      have g'10 := (jn @h1 (jn @h1d g'9))
      refine runTf g'10 ?_
      refine hn2 _ _ ?_
      refine AW_seqQ fun Q3 hn3 hr3 he3 => ?_
      have hQ3 := fun F H' h => hr3 F H' (hQ1 F H' h)
      refine AW_blockQ fun Q4 hn4 hr4 he4 hb4 => ?_
      have hQ4 := fun F H' h => hr4 F H' (hQ3 F H' h)
      refine AW_seqQ fun Q5 hn5 hr5 he5 => ?_
      have hQ5 := fun F H' h => hr5 F H' (hQ4 F H' h)
      refine AW_fin true try_mixed (by kernel_rfl) ?_
      refine runTf g'10 ?_
      refine hn5 _ _ ?_
      refine AW_blockQ fun Q6 hn6 hr6 he6 hb6 => ?_
      have hQ6 := fun F H' h => hr6 F H' (hQ4 F H' h)
      refine AW_loopA (fun k F Hx => ∃ m : Nat, m + k = (celN (rchL x0 vx vd lo hi) (rchH x1 vx vd lo hi)) ∧ F = [(2, .int .i64 lo), (3, .int .i64 hi), (4, .ptr (some (H.length, 0))), (5, .ptr (some (H.length + 1, 0))), (13, .int .i64 (spl (rchL x0 vx vd lo hi))), (14, .int .i64 (sph (rchH x1 vx vd lo hi))), (16, .int .i64 (sph (rchH y1 vy vd lo hi))), (17, .sl (some (H.length + 2, 0)) ((gridR (swpP x0 y0 x1 y1 vx vy vd lo hi) (spl (rchL x0 vx vd lo hi)) (celN (rchL x0 vx vd lo hi) (rchH x1 vx vd lo hi)) (spl (rchL y0 vy vd lo hi)) n ++ rowR (swpP x0 y0 x1 y1 vx vy vd lo hi) (spl (rchL x0 vx vd lo hi)) ((spl (rchL y0 vy vd lo hi)) + ((n : Nat) : Int)) m).length) (capG (gridR (swpP x0 y0 x1 y1 vx vy vd lo hi) (spl (rchL x0 vx vd lo hi)) (celN (rchL x0 vx vd lo hi) (rchH x1 vx vd lo hi)) (spl (rchL y0 vy vd lo hi)) n ++ rowR (swpP x0 y0 x1 y1 vx vy vd lo hi) (spl (rchL x0 vx vd lo hi)) ((spl (rchL y0 vy vd lo hi)) + ((n : Nat) : Int)) m).length)), (18, .int .i64 ((spl (rchL y0 vy vd lo hi)) + ((n : Nat) : Int))), (19, .int .i64 ((spl (rchL x0 vx vd lo hi)) + ((m : Nat) : Int)))] ∧ Hx = H ++ [.cells true 0 [.int .i64 x0, .int .i64 y0, .int .i64 x1, .int .i64 y1], .cells true 0 [.int .i64 vx, .int .i64 vy, .int .i64 vd], .cells (ownG (gridR (swpP x0 y0 x1 y1 vx vy vd lo hi) (spl (rchL x0 vx vd lo hi)) (celN (rchL x0 vx vd lo hi) (rchH x1 vx vd lo hi)) (spl (rchL y0 vy vd lo hi)) n ++ rowR (swpP x0 y0 x1 y1 vx vy vd lo hi) (spl (rchL x0 vx vd lo hi)) ((spl (rchL y0 vy vd lo hi)) + ((n : Nat) : Int)) m).length) 2 (prs (gridR (swpP x0 y0 x1 y1 vx vy vd lo hi) (spl (rchL x0 vx vd lo hi)) (celN (rchL x0 vx vd lo hi) (rchH x1 vx vd lo hi)) (spl (rchL y0 vy vd lo hi)) n ++ rowR (swpP x0 y0 x1 y1 vx vy vd lo hi) (spl (rchL x0 vx vd lo hi)) ((spl (rchL y0 vy vd lo hi)) + ((n : Nat) : Int)) m))]) ((celN (rchL x0 vx vd lo hi) (rchH x1 vx vd lo hi))) ?_ ?_
      · refine ⟨_, _, _, ⟨0, by omega, rfl, rfl⟩, Abs.byG hbel [] rfl [0, 1, 2] (by decide) ?_⟩
        exact absRf (jn @rowR_0 (jn @List.append_nil.{0} (jn @Int.natCast_zero @Int.add_zero)))
      · rintro k1 F Hx ⟨m, hm1, rfl, rfl⟩ Q7 hJ1 hr7 he7
        have hQ7 := fun F H' h => hr7 F H' (hQ6 F H' h)
        refine AW_seqQ fun Q8 hn8 hr8 he8 => ?_
        have hQ8 := fun F H' h => hr8 F H' (hQ7 F H' h)
        refine AW_fin true try_mixed (by kernel_rfl) ?_
        refine runTf g'10 ?_
        refine cond_split (fun h2 => ?_) (fun h2 => ?_)
        · have h2d := bsT h2
          have hgb := grid_bd2 (p := (swpP x0 y0 x1 y1 vx vy vd lo hi)) (x0 := (spl (rchL x0 vx vd lo hi))) (y0 := (spl (rchL y0 vy vd lo hi))) (y := (spl (rchL y0 vy vd lo hi)) + ((n : Nat) : Int)) (w := (celN (rchL x0 vx vd lo hi) (rchH x1 vx vd lo hi))) (n := n) (m := m) (by omega) (by omega) (by omega)
          have g'11 := (jn @h2 (jn @h2d g'10))
          refine runTf g'11 ?_
          refine hn8 _ _ ?_
          refine AW_seqQ fun Q9 hn9 hr9 he9 => ?_
          have hQ9 := fun F H' h => hr9 F H' (hQ7 F H' h)
          refine AW_blockQ fun Q10 hn10 hr10 he10 hb10 => ?_
          have hQ10 := fun F H' h => hr10 F H' (hQ9 F H' h)
          refine AW_seqQ fun Q11 hn11 hr11 he11 => ?_
          have hQ11 := fun F H' h => hr11 F H' (hQ10 F H' h)
          refine AW_fin true try_mixed (by kernel_rfl) ?_
          refine runTf g'11 ?_
          refine hn11 _ _ ?_
          refine AW_special true try_mixed [[0, 1, 2, 3, 4, 5, 6, 7, 8, 9], [0, 1, 2, 7, 3, 4, 5, 6, 8, 9], [0, 2, 7, 1, 3, 4, 5, 6, 8, 9]] (by kernel_rfl) (fun F2 H2 => F2 = [(2, .int .i64 lo), (3, .int .i64 hi), (4, .ptr (some (H.length, 0))), (5, .ptr (some (H.length + 1, 0))), (13, .int .i64 (spl (rchL x0 vx vd lo hi))), (14, .int .i64 (sph (rchH x1 vx vd lo hi))), (16, .int .i64 (sph (rchH y1 vy vd lo hi))), (17, .sl (some (H.length + 2, 0)) ((gridR (swpP x0 y0 x1 y1 vx vy vd lo hi) (spl (rchL x0 vx vd lo hi)) (celN (rchL x0 vx vd lo hi) (rchH x1 vx vd lo hi)) (spl (rchL y0 vy vd lo hi)) n ++ rowR (swpP x0 y0 x1 y1 vx vy vd lo hi) (spl (rchL x0 vx vd lo hi)) ((spl (rchL y0 vy vd lo hi)) + ((n : Nat) : Int)) m).length) (capG (gridR (swpP x0 y0 x1 y1 vx vy vd lo hi) (spl (rchL x0 vx vd lo hi)) (celN (rchL x0 vx vd lo hi) (rchH x1 vx vd lo hi)) (spl (rchL y0 vy vd lo hi)) n ++ rowR (swpP x0 y0 x1 y1 vx vy vd lo hi) (spl (rchL x0 vx vd lo hi)) ((spl (rchL y0 vy vd lo hi)) + ((n : Nat) : Int)) m).length)), (18, .int .i64 ((spl (rchL y0 vy vd lo hi)) + ((n : Nat) : Int))), (19, .int .i64 ((spl (rchL x0 vx vd lo hi)) + ((m : Nat) : Int))), (20, .ptr (some (H.length + 3, 0))), (21, .ptr (some (H.length + 4, 0))), (22, .bool (mnsB (((spl (rchL x0 vx vd lo hi)) + ((m : Nat) : Int)) * 64) (((spl (rchL y0 vy vd lo hi)) + ((n : Nat) : Int)) * 64) (((spl (rchL x0 vx vd lo hi)) + ((m : Nat) : Int)) * 64 + 64) (((spl (rchL y0 vy vd lo hi)) + ((n : Nat) : Int)) * 64 + 64) x0 y0 x1 y1))] ∧ H2 = H ++ [.cells true 0 [.int .i64 x0, .int .i64 y0, .int .i64 x1, .int .i64 y1], .cells true 0 [.int .i64 vx, .int .i64 vy, .int .i64 vd], .cells (ownG (gridR (swpP x0 y0 x1 y1 vx vy vd lo hi) (spl (rchL x0 vx vd lo hi)) (celN (rchL x0 vx vd lo hi) (rchH x1 vx vd lo hi)) (spl (rchL y0 vy vd lo hi)) n ++ rowR (swpP x0 y0 x1 y1 vx vy vd lo hi) (spl (rchL x0 vx vd lo hi)) ((spl (rchL y0 vy vd lo hi)) + ((n : Nat) : Int)) m).length) 2 (prs (gridR (swpP x0 y0 x1 y1 vx vy vd lo hi) (spl (rchL x0 vx vd lo hi)) (celN (rchL x0 vx vd lo hi) (rchH x1 vx vd lo hi)) (spl (rchL y0 vy vd lo hi)) n ++ rowR (swpP x0 y0 x1 y1 vx vy vd lo hi) (spl (rchL x0 vx vd lo hi)) ((spl (rchL y0 vy vd lo hi)) + ((n : Nat) : Int)) m)), .cells true 0 [.int .i64 ((spl (rchL x0 vx vd lo hi)) + ((m : Nat) : Int)), .int .i64 ((spl (rchL y0 vy vd lo hi)) + ((n : Nat) : Int))], .cells true 0 [.int .i64 (mkV (mnsB (((spl (rchL x0 vx vd lo hi)) + ((m : Nat) : Int)) * 64) (((spl (rchL y0 vy vd lo hi)) + ((n : Nat) : Int)) * 64) (((spl (rchL x0 vx vd lo hi)) + ((m : Nat) : Int)) * 64 + 64) (((spl (rchL y0 vy vd lo hi)) + ((n : Nat) : Int)) * 64 + 64) x0 y0 x1 y1) ((((spl (rchL x0 vx vd lo hi)) + ((m : Nat) : Int)) * 64) - x1)), .int .i64 (mkV (mnsB (((spl (rchL x0 vx vd lo hi)) + ((m : Nat) : Int)) * 64) (((spl (rchL y0 vy vd lo hi)) + ((n : Nat) : Int)) * 64) (((spl (rchL x0 vx vd lo hi)) + ((m : Nat) : Int)) * 64 + 64) (((spl (rchL y0 vy vd lo hi)) + ((n : Nat) : Int)) * 64 + 64) x0 y0 x1 y1) ((((spl (rchL y0 vy vd lo hi)) + ((n : Nat) : Int)) * 64) - y1)), .int .i64 (mkV (mnsB (((spl (rchL x0 vx vd lo hi)) + ((m : Nat) : Int)) * 64) (((spl (rchL y0 vy vd lo hi)) + ((n : Nat) : Int)) * 64) (((spl (rchL x0 vx vd lo hi)) + ((m : Nat) : Int)) * 64 + 64) (((spl (rchL y0 vy vd lo hi)) + ((n : Nat) : Int)) * 64 + 64) x0 y0 x1 y1) ((((spl (rchL x0 vx vd lo hi)) + ((m : Nat) : Int)) * 64 + 64) - x0)), .int .i64 (mkV (mnsB (((spl (rchL x0 vx vd lo hi)) + ((m : Nat) : Int)) * 64) (((spl (rchL y0 vy vd lo hi)) + ((n : Nat) : Int)) * 64) (((spl (rchL x0 vx vd lo hi)) + ((m : Nat) : Int)) * 64 + 64) (((spl (rchL y0 vy vd lo hi)) + ((n : Nat) : Int)) * 64 + 64) x0 y0 x1 y1) ((((spl (rchL y0 vy vd lo hi)) + ((n : Nat) : Int)) * 64 + 64) - y0))]]) ?_ ?_
          · refine reps_cons ?_ (reps_cons ?_ (reps_cons ?_ (reps_nil))) <;> intro J hJ
            · skip
              refine runDf g'11 ?_
              refine call_d (by kernel_rfl) (psquare_c _ ((spl (rchL x0 vx vd lo hi)) + ((m : Nat) : Int)) ((spl (rchL y0 vy vd lo hi)) + ((n : Nat) : Int)) (by omega) (by omega)) ?_
              refine runDf g'11 ?_
              refine call_d (by kernel_rfl) (sminus_c _ (((spl (rchL x0 vx vd lo hi)) + ((m : Nat) : Int)) * 64) (((spl (rchL y0 vy vd lo hi)) + ((n : Nat) : Int)) * 64) (((spl (rchL x0 vx vd lo hi)) + ((m : Nat) : Int)) * 64 + 64) (((spl (rchL y0 vy vd lo hi)) + ((n : Nat) : Int)) * 64 + 64) x0 y0 x1 y1 (by omega) (by omega) (by omega) (by omega) (by omega) (by omega) (by omega) (by omega)) ?_
              refine runDf g'11 ?_
              refine inv_of (hJ _ _ ⟨_, _, _, ⟨rfl, rfl⟩, Abs.byG hbel [] rfl [0, 1, 2, 3, 4] (by decide) ?_⟩)
              exact absR
            · skip
              refine runDf g'11 ?_
              refine call_d (by kernel_rfl) (psquare_c _ ((spl (rchL x0 vx vd lo hi)) + ((m : Nat) : Int)) ((spl (rchL y0 vy vd lo hi)) + ((n : Nat) : Int)) (by omega) (by omega)) ?_
              refine runDf g'11 ?_
              refine call_d (by kernel_rfl) (sminus_c _ (((spl (rchL x0 vx vd lo hi)) + ((m : Nat) : Int)) * 64) (((spl (rchL y0 vy vd lo hi)) + ((n : Nat) : Int)) * 64) (((spl (rchL x0 vx vd lo hi)) + ((m : Nat) : Int)) * 64 + 64) (((spl (rchL y0 vy vd lo hi)) + ((n : Nat) : Int)) * 64 + 64) x0 y0 x1 y1 (by omega) (by omega) (by omega) (by omega) (by omega) (by omega) (by omega) (by omega)) ?_
              refine runDf g'11 ?_
              refine inv_of (hJ _ _ ⟨_, _, _, ⟨rfl, rfl⟩, Abs.byG hbel [] rfl [0, 1, 2, 3, 4] (by decide) ?_⟩)
              exact absR
            · skip
              refine runDf g'11 ?_
              refine call_d (by kernel_rfl) (psquare_c _ ((spl (rchL x0 vx vd lo hi)) + ((m : Nat) : Int)) ((spl (rchL y0 vy vd lo hi)) + ((n : Nat) : Int)) (by omega) (by omega)) ?_
              refine runDf g'11 ?_
              refine call_d (by kernel_rfl) (sminus_c _ (((spl (rchL x0 vx vd lo hi)) + ((m : Nat) : Int)) * 64) (((spl (rchL y0 vy vd lo hi)) + ((n : Nat) : Int)) * 64) (((spl (rchL x0 vx vd lo hi)) + ((m : Nat) : Int)) * 64 + 64) (((spl (rchL y0 vy vd lo hi)) + ((n : Nat) : Int)) * 64 + 64) x0 y0 x1 y1 (by omega) (by omega) (by omega) (by omega) (by omega) (by omega) (by omega) (by omega)) ?_
              refine runDf g'11 ?_
              refine inv_of (hJ _ _ ⟨_, _, _, ⟨rfl, rfl⟩, Abs.byG hbel [] rfl [0, 1, 2, 3, 4] (by decide) ?_⟩)
              exact absR
          rintro F2 H2 ⟨rfl, rfl⟩
          refine AW_fin true try_mixed (by kernel_rfl) ?_
          refine runTf g'11 ?_
          refine gd_split (fun h3 => ?_) (fun h3 => ?_)
          · have h3d := bsT h3
            have hmn := h3d
            have g'12 := (jn @h3 (jn @h3d g'11))
            refine runTf g'12 ?_
            refine call_v (by kernel_rfl) (smeets_c _ 0 0 vx vy vd lo hi (mkV true ((((spl (rchL x0 vx vd lo hi)) + ((m : Nat) : Int)) * 64) - x1)) (mkV true ((((spl (rchL y0 vy vd lo hi)) + ((n : Nat) : Int)) * 64) - y1)) (mkV true ((((spl (rchL x0 vx vd lo hi)) + ((m : Nat) : Int)) * 64 + 64) - x0)) (mkV true ((((spl (rchL y0 vy vd lo hi)) + ((n : Nat) : Int)) * 64 + 64) - y0))) ?_
            refine runTf g'12 ?_
            refine cond_split (fun h4 => ?_) (fun h4 => ?_)
            · have h4d := bsT h4
              have hov : swpP x0 y0 x1 y1 vx vy vd lo hi ((spl (rchL x0 vx vd lo hi)) + ((m : Nat) : Int)) ((spl (rchL y0 vy vd lo hi)) + ((n : Nat) : Int)) = true := by have q := h4d; unfold swpP; rw [hmn]; exact q
              have g'13 := (jn @h4 (jn @h4d (jn @capG_s g'12)))
              refine runTf g'13 ?_
              refine hn10 _ _ ?_
              refine hn9 _ _ ?_
              refine AW_fin true try_mixed (by kernel_rfl) ?_
              refine runTf g'13 ?_
              refine hJ1 _ _ ⟨k1 - 1, by omega, _, _, _, ⟨m + 1, by omega, rfl, rfl⟩, Abs.byG hbel [] rfl [0, 1, 6] (by decide) ?_⟩
              exact absRf (jn @rowR.eq_2 (jn @hov (jn @if_true.{1} (jn @if_false.{1} (jn @Bool.false_eq_true (jn @List.append_nil.{0} (jn @List.append_assoc.{0} (jn @Int.natCast_add (jn @Int.natCast_one @Int.add_assoc)))))))))
            · have h4d := bsT h4
              have hov : swpP x0 y0 x1 y1 vx vy vd lo hi ((spl (rchL x0 vx vd lo hi)) + ((m : Nat) : Int)) ((spl (rchL y0 vy vd lo hi)) + ((n : Nat) : Int)) = false := by have q := h4d; unfold swpP; rw [hmn]; exact q
              have g'14 := (jn @h4 (jn @h4d g'12))
              refine runTf g'14 ?_
              refine hn10 _ _ ?_
              refine hn9 _ _ ?_
              refine AW_fin true try_mixed (by kernel_rfl) ?_
              refine runTf g'14 ?_
              refine hJ1 _ _ ⟨k1 - 1, by omega, _, _, _, ⟨m + 1, by omega, rfl, rfl⟩, Abs.byG hbel [] rfl [0, 1, 2] (by decide) ?_⟩
              exact absRf (jn @rowR.eq_2 (jn @hov (jn @if_true.{1} (jn @if_false.{1} (jn @Bool.false_eq_true (jn @List.append_nil.{0} (jn @List.append_assoc.{0} (jn @Int.natCast_add (jn @Int.natCast_one @Int.add_assoc)))))))))
          · have h3d := bsT h3
            have hov : swpP x0 y0 x1 y1 vx vy vd lo hi ((spl (rchL x0 vx vd lo hi)) + ((m : Nat) : Int)) ((spl (rchL y0 vy vd lo hi)) + ((n : Nat) : Int)) = false := by unfold swpP; rw [h3d]; rfl
            have g'15 := (jn @h3 (jn @h3d g'11))
            refine runTf g'15 ?_
            refine hn10 _ _ ?_
            refine hn9 _ _ ?_
            refine AW_fin true try_mixed (by kernel_rfl) ?_
            refine runTf g'15 ?_
            refine hJ1 _ _ ⟨k1 - 1, by omega, _, _, _, ⟨m + 1, by omega, rfl, rfl⟩, Abs.byG hbel [] rfl [0, 1, 2] (by decide) ?_⟩
            exact absRf (jn @rowR.eq_2 (jn @hov (jn @if_true.{1} (jn @if_false.{1} (jn @Bool.false_eq_true (jn @List.append_nil.{0} (jn @List.append_assoc.{0} (jn @Int.natCast_add (jn @Int.natCast_one @Int.add_assoc)))))))))
        · have h2d := bsT h2
          obtain rfl : m = (celN (rchL x0 vx vd lo hi) (rchH x1 vx vd lo hi)) := by omega
          have g'16 := (jn @h2 (jn @h2d g'10))
          refine runTf g'16 ?_
          refine he8 _ _ _ ?_
          refine he7 _ _ _ ?_
          refine hb6 _ _ ?_
          refine hn4 _ _ ?_
          refine hn3 _ _ ?_
          refine AW_fin true try_mixed (by kernel_rfl) ?_
          refine runTf g'16 ?_
          refine hJ0 _ _ ⟨k0 - 1, by omega, _, _, _, ⟨n + 1, by omega, rfl, rfl⟩, Abs.byG hbel [] rfl [0, 1, 2] (by decide) ?_⟩
          exact absRf (jn @gridR_s (jn @Int.natCast_add (jn @Int.natCast_one @Int.add_assoc)))
    · have h1d := bsT h1
      obtain rfl : n = celN (rchL y0 vy vd lo hi) (rchH y1 vy vd lo hi) := by omega
      have g'17 := (jn @h1 (jn @h1d g'9))
      refine runTf g'17 ?_
      refine he2 _ _ _ ?_
      refine he1 _ _ _ ?_
      refine runTf g'17 ?_
      refine hQ _ _ (end_byG (.inl rfl) hbel (x1 := .sl (some (H.length + 2, 0)) ((gridR (swpP x0 y0 x1 y1 vx vy vd lo hi) (spl (rchL x0 vx vd lo hi)) (celN (rchL x0 vx vd lo hi) (rchH x1 vx vd lo hi)) (spl (rchL y0 vy vd lo hi)) (celN (rchL y0 vy vd lo hi) (rchH y1 vy vd lo hi))).length) (capG (gridR (swpP x0 y0 x1 y1 vx vy vd lo hi) (spl (rchL x0 vx vd lo hi)) (celN (rchL x0 vx vd lo hi) (rchH x1 vx vd lo hi)) (spl (rchL y0 vy vd lo hi)) (celN (rchL y0 vy vd lo hi) (rchH y1 vy vd lo hi))).length)) (l2 := [.cells (ownG (gridR (swpP x0 y0 x1 y1 vx vy vd lo hi) (spl (rchL x0 vx vd lo hi)) (celN (rchL x0 vx vd lo hi) (rchH x1 vx vd lo hi)) (spl (rchL y0 vy vd lo hi)) (celN (rchL y0 vy vd lo hi) (rchH y1 vy vd lo hi))).length) 2 (prs (gridR (swpP x0 y0 x1 y1 vx vy vd lo hi) (spl (rchL x0 vx vd lo hi)) (celN (rchL x0 vx vd lo hi) (rchH x1 vx vd lo hi)) (spl (rchL y0 vy vd lo hi)) (celN (rchL y0 vy vd lo hi) (rchH y1 vy vd lo hi))))]) (.sl (some (H.length, 0)) ((gridR (swpP x0 y0 x1 y1 vx vy vd lo hi) (spl (rchL x0 vx vd lo hi)) (celN (rchL x0 vx vd lo hi) (rchH x1 vx vd lo hi)) (spl (rchL y0 vy vd lo hi)) (celN (rchL y0 vy vd lo hi) (rchH y1 vy vd lo hi))).length) (capG (gridR (swpP x0 y0 x1 y1 vx vy vd lo hi) (spl (rchL x0 vx vd lo hi)) (celN (rchL x0 vx vd lo hi) (rchH x1 vx vd lo hi)) (spl (rchL y0 vy vd lo hi)) (celN (rchL y0 vy vd lo hi) (rchH y1 vy vd lo hi))).length)) (resT Tryz.results230) [] rfl [2] (by decide) ⟨rfl, rfl⟩ ?_)
      exact absW
theorem traced_c (H : AHeap) (px : Int) (py : Int) (vx : Int) (vy : Int) (vd : Int) (lo : Int) (hi : Int) : ACalls Tryz.prog 217 [.agg [.int .i64 px, .int .i64 py], .agg [.int .i64 vx, .int .i64 vy, .int .i64 vd], .int .i64 lo, .int .i64 hi] H (fun v H' => v = .tup [.sl (some (H.length, 0)) ((trL px py vx vy vd lo hi).length) (capG (trL px py vx vy vd lo hi).length), .int .i64 (trE px py vx vy vd lo hi)] ∧ H' = H ++ [.cells (ownG (trL px py vx vy vd lo hi).length) 2 (prs (trL px py vx vy vd lo hi))]) := by
  refine AcT true Tryz.func217 ?_; intro hbel Q hQ
  refine runT ?_
  refine call_v (by kernel_rfl) (pvpt_c _ px py) ?_
  refine runT ?_
  refine gd_split (fun h1 => ?_) (fun h1 => ?_)
  · have h1d := bsT h1
    have hp1 := h1d
    have hp2 := ptB_iff.1 hp1
    have g'18 := (jn @h1 @h1d)
    refine runTf g'18 ?_
    refine call_v (by kernel_rfl) (pvv_c _ vx vy vd) ?_
    refine runTf g'18 ?_
    refine cond_split (fun h2 => ?_) (fun h2 => ?_)
    · have h2d := bsT h2
      have hz := trE_1 (px := px) (py := py) (vx := vx) (vy := vy) (vd := vd) (lo := lo) (hi := hi) (fun hh => by rw [h2d] at hh; exact absurd hh.2 (by decide))
      have hfinE := hz.1
      have hfinL := hz.2
      have g'19 := (jn @h2 (jn @h2d g'18))
      refine runTf g'19 ?_
      refine hQ _ _ (end_byG (.inl rfl) hbel (x1 := .tup [.sl none 0 (some 0), .int .i64 1]) (l2 := [.cells false 2 []]) (.tup [.sl (some (H.length, 0)) 0 (some 0), .int .i64 1]) (resT Tryz.results217) [.cells false 2 []] rfl [2] (by decide) ⟨by first | (rw [hfinL, hfinE]; done) | (rw [hfinL, hfinE]; rfl) | (rw [hfinL]; done) | (rw [hfinL]; rfl), by first | (rw [hfinL, hfinE]; done) | (rw [hfinL, hfinE]; rfl) | (rw [hfinL]; done) | (rw [hfinL]; rfl)⟩ ?_)
      exact absW
    · have h2d := bsT h2
      have hv := h2d
      have g'20 := (jn @h2 (jn @h2d g'18))
      refine runTf g'20 ?_
      refine gd_split (fun h3 => ?_) (fun h3 => ?_)
      · have h3d := bsT h3
        have g'21 := (jn @h3 (jn @h3d g'20))
        refine runTf g'21 ?_
        refine gd_split (fun h4 => ?_) (fun h4 => ?_)
        · have h4d := bsT h4
          have g'22 := (jn @h4 (jn @h4d g'21))
          refine runTf g'22 ?_
          refine cond_split (fun h5 => ?_) (fun h5 => ?_)
          · have h5d := bsT h5
            have hz := trE_2 (lo := lo) (hi := hi) hp1 hv (by omega)
            have hfinE := hz.1
            have hfinL := hz.2
            have g'23 := (jn @h5 (jn @h5d g'22))
            refine runTf g'23 ?_
            refine hQ _ _ (end_byG (.inl rfl) hbel (x1 := .tup [.sl none 0 (some 0), .int .i64 2]) (l2 := [.cells false 2 []]) (.tup [.sl (some (H.length, 0)) 0 (some 0), .int .i64 2]) (resT Tryz.results217) [.cells false 2 []] rfl [2] (by decide) ⟨by first | (rw [hfinL, hfinE]; done) | (rw [hfinL, hfinE]; rfl) | (rw [hfinL]; done) | (rw [hfinL]; rfl), by first | (rw [hfinL, hfinE]; done) | (rw [hfinL, hfinE]; rfl) | (rw [hfinL]; done) | (rw [hfinL]; rfl)⟩ ?_)
            exact absW
          · have h5d := bsT h5
            have hlh : 0 ≤ lo ∧ lo ≤ hi ∧ hi ≤ 2048 := by omega
            have hz := trE_0 hp1 hv hlh
            have hfinE := hz.1
            have hfinL := hz.2
            have g'24 := (jn @h5 (jn @h5d g'22))
            refine runTf g'24 ?_
            refine call_v (by kernel_rfl) (psweep_c _ px py px py vx vy vd lo hi (by omega) (by omega) (by assumption) (by omega)) ?_
            refine runTf g'24 ?_
            refine hQ _ _ (end_byG (.inl rfl) hbel (x1 := .tup [.sl (some (H.length + 2, 0)) ((swpL px py px py vx vy vd lo hi).length) (capG (swpL px py px py vx vy vd lo hi).length), .int .i64 0]) (l2 := [.cells (ownG (swpL px py px py vx vy vd lo hi).length) 2 (prs (swpL px py px py vx vy vd lo hi))]) (.tup [.sl (some (H.length, 0)) ((swpL px py px py vx vy vd lo hi).length) (capG (swpL px py px py vx vy vd lo hi).length), .int .i64 0]) (resT Tryz.results217) [] rfl [2] (by decide) ⟨by first | (rw [hfinL, hfinE]; done) | (rw [hfinL, hfinE]; rfl) | (rw [hfinL]; done) | (rw [hfinL]; rfl), by first | (rw [hfinL, hfinE]; done) | (rw [hfinL, hfinE]; rfl) | (rw [hfinL]; done) | (rw [hfinL]; rfl)⟩ ?_)
            exact absW
        · have h4d := bsT h4
          have hz := trE_2 (lo := lo) (hi := hi) hp1 hv (by omega)
          have hfinE := hz.1
          have hfinL := hz.2
          have g'25 := (jn @h4 (jn @h4d g'21))
          refine runTf g'25 ?_
          refine hQ _ _ (end_byG (.inl rfl) hbel (x1 := .tup [.sl none 0 (some 0), .int .i64 2]) (l2 := [.cells false 2 []]) (.tup [.sl (some (H.length, 0)) 0 (some 0), .int .i64 2]) (resT Tryz.results217) [.cells false 2 []] rfl [2] (by decide) ⟨by first | (rw [hfinL, hfinE]; done) | (rw [hfinL, hfinE]; rfl) | (rw [hfinL]; done) | (rw [hfinL]; rfl), by first | (rw [hfinL, hfinE]; done) | (rw [hfinL, hfinE]; rfl) | (rw [hfinL]; done) | (rw [hfinL]; rfl)⟩ ?_)
          exact absW
      · have h3d := bsT h3
        have hz := trE_2 (lo := lo) (hi := hi) hp1 hv (by omega)
        have hfinE := hz.1
        have hfinL := hz.2
        have g'26 := (jn @h3 (jn @h3d g'20))
        refine runTf g'26 ?_
        refine hQ _ _ (end_byG (.inl rfl) hbel (x1 := .tup [.sl none 0 (some 0), .int .i64 2]) (l2 := [.cells false 2 []]) (.tup [.sl (some (H.length, 0)) 0 (some 0), .int .i64 2]) (resT Tryz.results217) [.cells false 2 []] rfl [2] (by decide) ⟨by first | (rw [hfinL, hfinE]; done) | (rw [hfinL, hfinE]; rfl) | (rw [hfinL]; done) | (rw [hfinL]; rfl), by first | (rw [hfinL, hfinE]; done) | (rw [hfinL, hfinE]; rfl) | (rw [hfinL]; done) | (rw [hfinL]; rfl)⟩ ?_)
        exact absW
  · have h1d := bsT h1
    have hz := trE_1 (px := px) (py := py) (vx := vx) (vy := vy) (vd := vd) (lo := lo) (hi := hi) (fun hh => by rw [h1d] at hh; exact absurd hh.1 (by decide))
    have hfinE := hz.1
    have hfinL := hz.2
    have g'27 := (jn @h1 @h1d)
    refine runTf g'27 ?_
    refine hQ _ _ (end_byG (.inl rfl) hbel (x1 := .tup [.sl none 0 (some 0), .int .i64 1]) (l2 := [.cells false 2 []]) (.tup [.sl (some (H.length, 0)) 0 (some 0), .int .i64 1]) (resT Tryz.results217) [.cells false 2 []] rfl [2] (by decide) ⟨by first | (rw [hfinL, hfinE]; done) | (rw [hfinL, hfinE]; rfl) | (rw [hfinL]; done) | (rw [hfinL]; rfl), by first | (rw [hfinL, hfinE]; done) | (rw [hfinL, hfinE]; rfl) | (rw [hfinL]; done) | (rw [hfinL]; rfl)⟩ ?_)
    exact absW
theorem swept_c (H : AHeap) (x0 : Int) (y0 : Int) (x1 : Int) (y1 : Int) (vx : Int) (vy : Int) (vd : Int) (lo : Int) (hi : Int) : ACalls Tryz.prog 154 [.agg [.int .i64 x0, .int .i64 y0, .int .i64 x1, .int .i64 y1], .agg [.int .i64 vx, .int .i64 vy, .int .i64 vd], .int .i64 lo, .int .i64 hi] H (fun v H' => v = .tup [.sl (some (H.length, 0)) ((sptL x0 y0 x1 y1 vx vy vd lo hi).length) (capG (sptL x0 y0 x1 y1 vx vy vd lo hi).length), .int .i64 (sptE x0 y0 x1 y1 vx vy vd lo hi)] ∧ H' = H ++ [.cells (ownG (sptL x0 y0 x1 y1 vx vy vd lo hi).length) 2 (prs (sptL x0 y0 x1 y1 vx vy vd lo hi))]) := by
  refine AcT true Tryz.func154 ?_; intro hbel Q hQ
  refine runT ?_
  refine call_v (by kernel_rfl) (pvrc_c _ x0 y0 x1 y1) ?_
  refine runT ?_
  refine gd_split (fun h1 => ?_) (fun h1 => ?_)
  · have h1d := bsT h1
    have hp1 := h1d
    have hp2 := rctB_iff.1 hp1
    have g'28 := (jn @h1 @h1d)
    refine runTf g'28 ?_
    refine call_v (by kernel_rfl) (pvv_c _ vx vy vd) ?_
    refine runTf g'28 ?_
    refine cond_split (fun h2 => ?_) (fun h2 => ?_)
    · have h2d := bsT h2
      have hz := sptE_1 (x0 := x0) (y0 := y0) (x1 := x1) (y1 := y1) (vx := vx) (vy := vy) (vd := vd) (lo := lo) (hi := hi) (fun hh => by rw [h2d] at hh; exact absurd hh.2 (by decide))
      have hfinE := hz.1
      have hfinL := hz.2
      have g'29 := (jn @h2 (jn @h2d g'28))
      refine runTf g'29 ?_
      refine hQ _ _ (end_byG (.inl rfl) hbel (x1 := .tup [.sl none 0 (some 0), .int .i64 1]) (l2 := [.cells false 2 []]) (.tup [.sl (some (H.length, 0)) 0 (some 0), .int .i64 1]) (resT Tryz.results154) [.cells false 2 []] rfl [2] (by decide) ⟨by first | (rw [hfinL, hfinE]; done) | (rw [hfinL, hfinE]; rfl) | (rw [hfinL]; done) | (rw [hfinL]; rfl), by first | (rw [hfinL, hfinE]; done) | (rw [hfinL, hfinE]; rfl) | (rw [hfinL]; done) | (rw [hfinL]; rfl)⟩ ?_)
      exact absW
    · have h2d := bsT h2
      have hv := h2d
      have g'30 := (jn @h2 (jn @h2d g'28))
      refine runTf g'30 ?_
      refine gd_split (fun h3 => ?_) (fun h3 => ?_)
      · have h3d := bsT h3
        have g'31 := (jn @h3 (jn @h3d g'30))
        refine runTf g'31 ?_
        refine gd_split (fun h4 => ?_) (fun h4 => ?_)
        · have h4d := bsT h4
          have g'32 := (jn @h4 (jn @h4d g'31))
          refine runTf g'32 ?_
          refine cond_split (fun h5 => ?_) (fun h5 => ?_)
          · have h5d := bsT h5
            have hz := sptE_2 (lo := lo) (hi := hi) hp1 hv (by omega)
            have hfinE := hz.1
            have hfinL := hz.2
            have g'33 := (jn @h5 (jn @h5d g'32))
            refine runTf g'33 ?_
            refine hQ _ _ (end_byG (.inl rfl) hbel (x1 := .tup [.sl none 0 (some 0), .int .i64 2]) (l2 := [.cells false 2 []]) (.tup [.sl (some (H.length, 0)) 0 (some 0), .int .i64 2]) (resT Tryz.results154) [.cells false 2 []] rfl [2] (by decide) ⟨by first | (rw [hfinL, hfinE]; done) | (rw [hfinL, hfinE]; rfl) | (rw [hfinL]; done) | (rw [hfinL]; rfl), by first | (rw [hfinL, hfinE]; done) | (rw [hfinL, hfinE]; rfl) | (rw [hfinL]; done) | (rw [hfinL]; rfl)⟩ ?_)
            exact absW
          · have h5d := bsT h5
            have hlh : 0 ≤ lo ∧ lo ≤ hi ∧ hi ≤ 2048 := by omega
            have g'34 := (jn @h5 (jn @h5d g'32))
            refine runTf g'34 ?_
            refine gd_split (fun h6 => ?_) (fun h6 => ?_)
            · have h6d := bsT h6
              have g'35 := (jn @h6 (jn @h6d g'34))
              refine runTf g'35 ?_
              refine cond_split (fun h7 => ?_) (fun h7 => ?_)
              · have h7d := bsT h7
                have hz := sptE_6 hp1 hv hlh (.inr h7d)
                have hfinE := hz.1
                have hfinL := hz.2
                have g'36 := (jn @h7 (jn @h7d g'35))
                refine runTf g'36 ?_
                refine hQ _ _ (end_byG (.inl rfl) hbel (x1 := .tup [.sl none 0 (some 0), .int .i64 6]) (l2 := [.cells false 2 []]) (.tup [.sl (some (H.length, 0)) 0 (some 0), .int .i64 6]) (resT Tryz.results154) [.cells false 2 []] rfl [2] (by decide) ⟨by first | (rw [hfinL, hfinE]; done) | (rw [hfinL, hfinE]; rfl) | (rw [hfinL]; done) | (rw [hfinL]; rfl), by first | (rw [hfinL, hfinE]; done) | (rw [hfinL, hfinE]; rfl) | (rw [hfinL]; done) | (rw [hfinL]; rfl)⟩ ?_)
                exact absW
              · have h7d := bsT h7
                have hz := sptE_0 hp1 hv hlh (by omega)
                have hfinE := hz.1
                have hfinL := hz.2
                have g'37 := (jn @h7 (jn @h7d g'35))
                refine runTf g'37 ?_
                refine call_v (by kernel_rfl) (psweep_c _ x0 y0 x1 y1 vx vy vd lo hi (by omega) (by omega) (by assumption) (by omega)) ?_
                refine runTf g'37 ?_
                refine hQ _ _ (end_byG (.inl rfl) hbel (x1 := .tup [.sl (some (H.length + 2, 0)) ((swpL x0 y0 x1 y1 vx vy vd lo hi).length) (capG (swpL x0 y0 x1 y1 vx vy vd lo hi).length), .int .i64 0]) (l2 := [.cells (ownG (swpL x0 y0 x1 y1 vx vy vd lo hi).length) 2 (prs (swpL x0 y0 x1 y1 vx vy vd lo hi))]) (.tup [.sl (some (H.length, 0)) ((swpL x0 y0 x1 y1 vx vy vd lo hi).length) (capG (swpL x0 y0 x1 y1 vx vy vd lo hi).length), .int .i64 0]) (resT Tryz.results154) [] rfl [2] (by decide) ⟨by first | (rw [hfinL, hfinE]; done) | (rw [hfinL, hfinE]; rfl) | (rw [hfinL]; done) | (rw [hfinL]; rfl), by first | (rw [hfinL, hfinE]; done) | (rw [hfinL, hfinE]; rfl) | (rw [hfinL]; done) | (rw [hfinL]; rfl)⟩ ?_)
                exact absW
            · have h6d := bsT h6
              have hz := sptE_6 hp1 hv hlh (.inl h6d)
              have hfinE := hz.1
              have hfinL := hz.2
              have g'38 := (jn @h6 (jn @h6d g'34))
              refine runTf g'38 ?_
              refine hQ _ _ (end_byG (.inl rfl) hbel (x1 := .tup [.sl none 0 (some 0), .int .i64 6]) (l2 := [.cells false 2 []]) (.tup [.sl (some (H.length, 0)) 0 (some 0), .int .i64 6]) (resT Tryz.results154) [.cells false 2 []] rfl [2] (by decide) ⟨by first | (rw [hfinL, hfinE]; done) | (rw [hfinL, hfinE]; rfl) | (rw [hfinL]; done) | (rw [hfinL]; rfl), by first | (rw [hfinL, hfinE]; done) | (rw [hfinL, hfinE]; rfl) | (rw [hfinL]; done) | (rw [hfinL]; rfl)⟩ ?_)
              exact absW
        · have h4d := bsT h4
          have hz := sptE_2 (lo := lo) (hi := hi) hp1 hv (by omega)
          have hfinE := hz.1
          have hfinL := hz.2
          have g'39 := (jn @h4 (jn @h4d g'31))
          refine runTf g'39 ?_
          refine hQ _ _ (end_byG (.inl rfl) hbel (x1 := .tup [.sl none 0 (some 0), .int .i64 2]) (l2 := [.cells false 2 []]) (.tup [.sl (some (H.length, 0)) 0 (some 0), .int .i64 2]) (resT Tryz.results154) [.cells false 2 []] rfl [2] (by decide) ⟨by first | (rw [hfinL, hfinE]; done) | (rw [hfinL, hfinE]; rfl) | (rw [hfinL]; done) | (rw [hfinL]; rfl), by first | (rw [hfinL, hfinE]; done) | (rw [hfinL, hfinE]; rfl) | (rw [hfinL]; done) | (rw [hfinL]; rfl)⟩ ?_)
          exact absW
      · have h3d := bsT h3
        have hz := sptE_2 (lo := lo) (hi := hi) hp1 hv (by omega)
        have hfinE := hz.1
        have hfinL := hz.2
        have g'40 := (jn @h3 (jn @h3d g'30))
        refine runTf g'40 ?_
        refine hQ _ _ (end_byG (.inl rfl) hbel (x1 := .tup [.sl none 0 (some 0), .int .i64 2]) (l2 := [.cells false 2 []]) (.tup [.sl (some (H.length, 0)) 0 (some 0), .int .i64 2]) (resT Tryz.results154) [.cells false 2 []] rfl [2] (by decide) ⟨by first | (rw [hfinL, hfinE]; done) | (rw [hfinL, hfinE]; rfl) | (rw [hfinL]; done) | (rw [hfinL]; rfl), by first | (rw [hfinL, hfinE]; done) | (rw [hfinL, hfinE]; rfl) | (rw [hfinL]; done) | (rw [hfinL]; rfl)⟩ ?_)
        exact absW
  · have h1d := bsT h1
    have hz := sptE_1 (x0 := x0) (y0 := y0) (x1 := x1) (y1 := y1) (vx := vx) (vy := vy) (vd := vd) (lo := lo) (hi := hi) (fun hh => by rw [h1d] at hh; exact absurd hh.1 (by decide))
    have hfinE := hz.1
    have hfinL := hz.2
    have g'41 := (jn @h1 @h1d)
    refine runTf g'41 ?_
    refine hQ _ _ (end_byG (.inl rfl) hbel (x1 := .tup [.sl none 0 (some 0), .int .i64 1]) (l2 := [.cells false 2 []]) (.tup [.sl (some (H.length, 0)) 0 (some 0), .int .i64 1]) (resT Tryz.results154) [.cells false 2 []] rfl [2] (by decide) ⟨by first | (rw [hfinL, hfinE]; done) | (rw [hfinL, hfinE]; rfl) | (rw [hfinL]; done) | (rw [hfinL]; rfl), by first | (rw [hfinL, hfinE]; done) | (rw [hfinL, hfinE]; rfl) | (rw [hfinL]; done) | (rw [hfinL]; rfl)⟩ ?_)
    exact absW
open Go.RowKit
/-- A box with the direction of a beam for one of its marks. -/
def dirE (b : T6) (m h : Int) : T9 := (b.1, b.2.1, b.2.2.1, b.2.2.2.1, b.2.2.2.2.1, b.2.2.2.2.2, (beamV h m).1, (beamV h m).2.1, (beamV h m).2.2)
def mkB (b : T6) : List Int := mrkL b.2.2.2.2.1 b.2.2.2.2.2.toNat
def dirB (b : T6) (m : Int) : Nat → List T9
  | 0 => []
  | j + 1 => dirB b m j ++ [dirE b m (gi (mkB b) j)]
def dirS (l : List T6) (m : Int) : Nat → List T9
  | 0 => []
  | i + 1 => dirS l m i ++ dirB (g6 l i) m (mkB (g6 l i)).length
def dirA (l : List T6) (m : Int) : List T9 := dirS l m l.length
theorem dirB_len (b : T6) (m : Int) : ∀ j : Nat, (dirB b m j).length = j
  | 0 => rfl
  | j + 1 => by simp only [dirB, List.length_append, dirB_len b m j]; rfl
theorem mkB_len {l : List T6} (h : setB l = true) {i : Nat} (hi : i < l.length) : 1 ≤ (mkB (g6 l i)).length ∧ (mkB (g6 l i)).length ≤ 256 ∧ (((mkB (g6 l i)).length : Nat) : Int) = g66 l i := by
  have := g66_bd h hi
  unfold mkB
  rw [mrkL_len]
  have e : (g6 l i).2.2.2.2.2 = g66 l i := rfl
  rw [e]; omega
theorem dirS_len {l : List T6} (h : setB l = true) (m : Int) : ∀ i : Nat, i ≤ l.length → i ≤ (dirS l m i).length ∧ (dirS l m i).length ≤ 256 * i
  | 0, _ => by simp [dirS]
  | i + 1, hi => by
    have ih := dirS_len h m i (by omega)
    have k := mkB_len h (show i < l.length by omega)
    simp only [dirS, List.length_append, dirB_len]; omega
theorem dirA_len {l : List T6} (h : setB l = true) (m : Int) : l.length ≤ (dirA l m).length ∧ (dirA l m).length ≤ 4096 := by
  have a := dirS_len h m l.length (Nat.le_refl _)
  have b := setB_len h
  unfold dirA; omega
/-- What the pairs are. -/
theorem dirB_mem {b : T6} {m : Int} {e : T9} : ∀ {j : Nat}, j ≤ (mkB b).length → (e ∈ dirB b m j ↔ ∃ q : Nat, q < j ∧ e = dirE b m (gi (mkB b) q))
  | 0, _ => by simp [dirB]
  | j + 1, hj => by
    rw [dirB, List.mem_append, dirB_mem (by omega), List.mem_singleton]
    constructor
    · rintro (⟨q, hq, rfl⟩ | rfl)
      · exact ⟨q, by omega, rfl⟩
      · exact ⟨j, by omega, rfl⟩
    · rintro ⟨q, hq, rfl⟩
      rcases Nat.lt_or_ge q j with h | h
      · exact .inl ⟨q, h, rfl⟩
      · obtain rfl : q = j := by omega
        exact .inr rfl
theorem dirS_mem {l : List T6} {m : Int} {e : T9} : ∀ {i : Nat}, i ≤ l.length → (e ∈ dirS l m i ↔ ∃ j q : Nat, j < i ∧ q < (mkB (g6 l j)).length ∧ e = dirE (g6 l j) m (gi (mkB (g6 l j)) q))
  | 0, _ => by simp [dirS]
  | i + 1, hi => by
    rw [dirS, List.mem_append, dirS_mem (by omega), dirB_mem (Nat.le_refl _)]
    constructor
    · rintro (⟨j, q, h1, h2, h3⟩ | ⟨q, h2, h3⟩)
      · exact ⟨j, q, by omega, h2, h3⟩
      · exact ⟨i, q, by omega, h2, h3⟩
    · rintro ⟨j, q, h1, h2, h3⟩
      rcases Nat.lt_or_ge j i with h | h
      · exact .inl ⟨j, q, h, h2, h3⟩
      · obtain rfl : j = i := by omega
        exact .inr ⟨q, h2, h3⟩
def pairB (e : T9) : Bool := bxB e.1 e.2.1 e.2.2.1 e.2.2.2.1 e.2.2.2.2.1 e.2.2.2.2.2.1 && vecB e.2.2.2.2.2.2.1 e.2.2.2.2.2.2.2.1 e.2.2.2.2.2.2.2.2
theorem dirA_ok {l : List T6} (h : setB l = true) {m : Int} {e : T9} (he : e ∈ dirA l m) : pairB e = true := by
  obtain ⟨j, q, hj, hq, rfl⟩ := (dirS_mem (Nat.le_refl _)).1 he
  unfold pairB dirE
  rw [Bool.and_eq_true]
  exact ⟨(setB_iff.1 h).2 (g6 l j) (g6_mem hj), beam_ok _ _⟩
/-- A pair's corners all meet a square before a distance. -/
def psB (e : T9) (s0 t0 s1 t1 far : Int) : Bool := sbfB e.1 e.2.1 e.2.2.2.2.2.2.1 e.2.2.2.2.2.2.2.1 e.2.2.2.2.2.2.2.2 far s0 t0 s1 t1 && (sbfB e.2.2.1 e.2.1 e.2.2.2.2.2.2.1 e.2.2.2.2.2.2.2.1 e.2.2.2.2.2.2.2.2 far s0 t0 s1 t1 && (sbfB e.1 e.2.2.2.1 e.2.2.2.2.2.2.1 e.2.2.2.2.2.2.2.1 e.2.2.2.2.2.2.2.2 far s0 t0 s1 t1 && sbfB e.2.2.1 e.2.2.2.1 e.2.2.2.2.2.2.1 e.2.2.2.2.2.2.2.1 e.2.2.2.2.2.2.2.2 far s0 t0 s1 t1))
def psC (e : T9) (far : Int) (c : Int × Int) : Bool := psB e (c.1 * 64) (c.2 * 64) (c.1 * 64 + 64) (c.2 * 64 + 64) far
def prvB (l : List T6) (m far : Int) (c : Int × Int) : Bool := (dirA l m).all fun e => psC e far c
def farF (r g : Int) : Int := if r = -1 then 1024 - g else r - g
/-- The cells of the ray from the first pair's first corner. -/
def fstL (l : List T6) (m far : Int) : List (Int × Int) := trL (g91 (dirA l m) 0) (g92 (dirA l m) 0) (g97 (dirA l m) 0) (g98 (dirA l m) 0) (g99 (dirA l m) 0) 0 far
def okcB (W Hh : Int) (l : List T6) (m far : Int) (c : Int × Int) : Bool := btw c.1 0 (W - 1) && (btw c.2 0 (Hh - 1) && prvB l m far c)
def prvL (W Hh : Int) (l : List T6) (m r g : Int) : List (Int × Int) := if farF r g ≤ 0 then [] else (fstL l m (farF r g)).filter (okcB W Hh l m (farF r g))
theorem flt_step {α : Type} {p : α → Bool} {l : List α} {j : Nat} (h : j < l.length) : (l.take (j + 1)).filter p = (l.take j).filter p ++ (if p l[j] = true then [l[j]] else []) := by
  rw [List.take_succ_eq_append_getElem h, List.filter_append]
  congr 1
  cases hp : p l[j] <;> simp [hp]
theorem flt_len {α : Type} {p : α → Bool} {l : List α} {j : Nat} : ((l.take j).filter p).length ≤ j := by
  have := List.length_filter_le p (l.take j)
  rw [List.length_take] at this; omega
theorem prvL_len (W Hh : Int) (l : List T6) (m r g : Int) : (prvL W Hh l m r g).length ≤ 7225 := by
  unfold prvL; split
  · simp
  · exact Nat.le_trans (List.length_filter_le _ _) (trL_len _ _ _ _ _ _ _)
def sqO (x y : Int) : Bool := within x 16384 && within y 16384
open Go.RowKit
set_option maxRecDepth 100000 in
theorem idx_int (H : AHeap) (s : AV) (l : List Int) (hs : Sl H 1 s l.length (ints .i64 l)) (hl : l.length ≤ 1000000000) (g : FuncId) (caps : List AV) (hok : okFn Tryz.prog g = true) (hc : AV.bels H.length caps = true) (p : Int → Bool) (hf : ∀ j, j < l.length → ACalls Tryz.prog g (.int .i64 (gi l j) :: caps) H (fun v H' => v = .bool (p (gi l j)) ∧ H' = H)) :
    ACalls Tryz.prog 266 [s, .fn g caps] H (fun v H' => v = .int .i64 (idxI p l) ∧ H' = H) := by
  obtain ⟨b, own, cap, rfl, hb⟩ := hs
  have hbl := getElem?_lt hb
  have hmv := fun m sel => mvs_caps (n := H.length) (m := m) (sel := sel) hc
  (refine ACalls_run try_mixed Tryz.func266 true _ rfl (Nat.le_of_ble_eq_true (by kernel_rfl)) (by kernel_rfl) ?_; intro hbel Q hQ hQ' c hc; unfold Tryz.f266 at hc; simp only [Option.some.injEq] at hc; subst hc; clear hQ')
  simp -implicitDefEqProofs (disch := omega) only [simprocAttr, amset, tyset, Function.comp_apply, one1, lenV, calleeOf, lateOk, belowV, aop, AV.ofValue, AV.ofCell, AV.cells, AV.flat, AV.one, arep, aBin, aAppend, aConv]
  refine go_loop try_mixed (by kernel_rfl) (fun k F Hx => ∃ i : Nat, i + k = l.length ∧ (l.take i).any p = false ∧ F = [(0, .sl (some (b, 0)) l.length none), (1, .fn g caps), (7, .int .i64 l.length), (8, .int .i64 (i : Nat))] ∧ Hx = H) l.length ?_ ?_
  · refine ⟨_, _, _, ⟨0, by omega, rfl, rfl, rfl⟩, Abs.by0 hbel ?_⟩
    exact absWf @hmv
  · rintro k F Hx ⟨i, hik, ht, rfl, rfl⟩ J hJ
    by_cases hi : i < l.length
    · have hii : (i : Int) < (l.length : Int) := by omega
      have q1 := ints_get (k := .i64) hi
      have hg := gi_eq hi
      simp -implicitDefEqProofs (disch := omega) only [hii, hb, q1, ints_len, ints_ones, simprocAttr, amset, tyset, Function.comp_apply, one1, lenV, calleeOf, lateOk, belowV, aop, AV.ofValue, AV.ofCell, AV.cells, AV.flat, AV.one, arep, aBin, aAppend, aConv]
      refine And.intro (by omega) ?_
      refine call_v hok (hf i hi) ?_
      have hst := any_step (p := p) hi
      rw [ht, Bool.false_or, ← hg] at hst
      cases h1 : p (gi l i)
      · rw [h1] at hst
        simp -implicitDefEqProofs (disch := omega) only [h1, simprocAttr, amset, tyset, Function.comp_apply, one1, lenV, calleeOf, lateOk, belowV, aop, AV.ofValue, AV.ofCell, AV.cells, AV.flat, AV.one, arep, aBin, aAppend, aConv]
        refine hJ _ _ ⟨k - 1, by omega, _, _, _, ⟨i + 1, by omega, hst, rfl, rfl⟩, Abs.by0 hbel ?_⟩
        exact absWf @hmv
      · simp -implicitDefEqProofs (disch := omega) only [h1, simprocAttr, amset, tyset, Function.comp_apply, one1, lenV, calleeOf, lateOk, belowV, aop, AV.ofValue, AV.ofCell, AV.cells, AV.flat, AV.one, arep, aBin, aAppend, aConv]
        exact hQ _ _ (end_plain0 (.inl rfl) hbel (x := .int .i64 (i : Nat)) (resT Tryz.results266) rfl ⟨by rw [idxI_at hi ht (by rw [← hg]; exact h1)], rfl⟩)
    · have hnn : ¬ ((i : Int) < (l.length : Int)) := by omega
      simp -implicitDefEqProofs (disch := omega) only [hnn, simprocAttr, amset, tyset, Function.comp_apply, one1, lenV, calleeOf, lateOk, belowV, aop, AV.ofValue, AV.ofCell, AV.cells, AV.flat, AV.one, arep, aBin, aAppend, aConv]
      rw [List.take_of_length_le (by omega)] at ht
      exact hQ _ _ (end_plain0 (.inl rfl) hbel (x := .int .i64 (-1)) (resT Tryz.results266) rfl ⟨by rw [idxI_none ht], rfl⟩)
theorem has_int (H : AHeap) (s : AV) (l : List Int) (hs : Sl H 1 s l.length (ints .i64 l)) (hl : l.length ≤ 1000000000) (g : FuncId) (caps : List AV) (hok : okFn Tryz.prog g = true) (hc : AV.bels H.length caps = true) (p : Int → Bool) (hf : ∀ j, j < l.length → ACalls Tryz.prog g (.int .i64 (gi l j) :: caps) H (fun v H' => v = .bool (p (gi l j)) ∧ H' = H)) :
    ACalls Tryz.prog 214 [s, .fn g caps] H (fun v H' => v = .bool (l.any p) ∧ H' = H) := by
  have key := idx_int H s l hs hl g caps hok hc p hf
  obtain ⟨b, own, cap, rfl, hb⟩ := hs
  have hbl := getElem?_lt hb
  (refine ACalls_run try_mixed Tryz.func214 true _ rfl (Nat.le_of_ble_eq_true (by kernel_rfl)) (by kernel_rfl) ?_; intro hbel Q hQ hQ' c hc; unfold Tryz.f214 at hc; simp only [Option.some.injEq] at hc; subst hc; clear hQ')
  simp -implicitDefEqProofs (disch := omega) only [simprocAttr, amset, tyset, Function.comp_apply, one1, lenV, calleeOf, lateOk, belowV, aop, AV.ofValue, AV.ofCell, AV.cells, AV.flat, AV.one, arep, aBin, aAppend, aConv]
  refine call_v (by kernel_rfl) key ?_
  simp -implicitDefEqProofs (disch := omega) only [simprocAttr, amset, tyset, Function.comp_apply, one1, lenV, calleeOf, lateOk, belowV, aop, AV.ofValue, AV.ofCell, AV.cells, AV.flat, AV.one, arep, aBin, aAppend, aConv]
  exact hQ _ _ (end_plain0 (.inl rfl) hbel (x := .bool (decide (0 ≤ idxI p l))) (resT Tryz.results214) rfl ⟨by rw [idxI_any], rfl⟩)
open Go.RowKit
set_option maxRecDepth 100000 in
theorem idx_box (H : AHeap) (s : AV) (l : List T6) (hs : Sl H 6 s l.length (r6 l)) (hl : l.length ≤ 1000000000) (g : FuncId) (caps : List AV) (hok : okFn Tryz.prog g = true) (hc : AV.bels H.length caps = true) (p : T6 → Bool) (hf : ∀ j, j < l.length → ACalls Tryz.prog g (.agg [.int .i64 (g61 l j), .int .i64 (g62 l j), .int .i64 (g63 l j), .int .i64 (g64 l j), .int .i64 (g65 l j), .int .i64 (g66 l j)] :: caps) H (fun v H' => v = .bool (p (g61 l j, g62 l j, g63 l j, g64 l j, g65 l j, g66 l j)) ∧ H' = H)) :
    ACalls Tryz.prog 169 [s, .fn g caps] H (fun v H' => v = .int .i64 (idxI p l) ∧ H' = H) := by
  obtain ⟨b, own, cap, rfl, hb⟩ := hs
  have hbl := getElem?_lt hb
  have hmv := fun m sel => mvs_caps (n := H.length) (m := m) (sel := sel) hc
  (refine ACalls_run try_mixed Tryz.func169 true _ rfl (Nat.le_of_ble_eq_true (by kernel_rfl)) (by kernel_rfl) ?_; intro hbel Q hQ hQ' c hc; unfold Tryz.f169 at hc; simp only [Option.some.injEq] at hc; subst hc; clear hQ')
  simp -implicitDefEqProofs (disch := omega) only [simprocAttr, amset, tyset, Function.comp_apply, one1, lenV, calleeOf, lateOk, belowV, aop, AV.ofValue, AV.ofCell, AV.cells, AV.flat, AV.one, arep, aBin, aAppend, aConv]
  refine go_loop try_mixed (by kernel_rfl) (fun k F Hx => ∃ i : Nat, i + k = l.length ∧ (l.take i).any p = false ∧ F = [(0, .sl (some (b, 0)) l.length none), (1, .fn g caps), (7, .int .i64 l.length), (8, .int .i64 (i : Nat))] ∧ Hx = H) l.length ?_ ?_
  · refine ⟨_, _, _, ⟨0, by omega, rfl, rfl, rfl⟩, Abs.by0 hbel ?_⟩
    exact absWf @hmv
  · rintro k F Hx ⟨i, hik, ht, rfl, rfl⟩ J hJ
    by_cases hi : i < l.length
    · have hii : (i : Int) < (l.length : Int) := by omega
      have q1 := r6_load hi
      have hg := g6_eq hi
      simp -implicitDefEqProofs (disch := omega) only [hii, hb, q1, r6_len, r6_one, simprocAttr, amset, tyset, Function.comp_apply, one1, lenV, calleeOf, lateOk, belowV, aop, AV.ofValue, AV.ofCell, AV.cells, AV.flat, AV.one, arep, aBin, aAppend, aConv]
      iterate 2 refine And.intro (by omega) ?_
      refine call_v hok (hf i hi) ?_
      have hst := any_step (p := p) hi
      rw [ht, Bool.false_or, ← hg] at hst
      cases h1 : p (g61 l i, g62 l i, g63 l i, g64 l i, g65 l i, g66 l i)
      · rw [h1] at hst
        simp -implicitDefEqProofs (disch := omega) only [h1, simprocAttr, amset, tyset, Function.comp_apply, one1, lenV, calleeOf, lateOk, belowV, aop, AV.ofValue, AV.ofCell, AV.cells, AV.flat, AV.one, arep, aBin, aAppend, aConv]
        refine hJ _ _ ⟨k - 1, by omega, _, _, _, ⟨i + 1, by omega, hst, rfl, rfl⟩, Abs.by0 hbel ?_⟩
        exact absWf @hmv
      · simp -implicitDefEqProofs (disch := omega) only [h1, simprocAttr, amset, tyset, Function.comp_apply, one1, lenV, calleeOf, lateOk, belowV, aop, AV.ofValue, AV.ofCell, AV.cells, AV.flat, AV.one, arep, aBin, aAppend, aConv]
        exact hQ _ _ (end_plain0 (.inl rfl) hbel (x := .int .i64 (i : Nat)) (resT Tryz.results169) rfl ⟨by rw [idxI_at hi ht (by rw [← hg]; exact h1)], rfl⟩)
    · have hnn : ¬ ((i : Int) < (l.length : Int)) := by omega
      simp -implicitDefEqProofs (disch := omega) only [hnn, simprocAttr, amset, tyset, Function.comp_apply, one1, lenV, calleeOf, lateOk, belowV, aop, AV.ofValue, AV.ofCell, AV.cells, AV.flat, AV.one, arep, aBin, aAppend, aConv]
      rw [List.take_of_length_le (by omega)] at ht
      exact hQ _ _ (end_plain0 (.inl rfl) hbel (x := .int .i64 (-1)) (resT Tryz.results169) rfl ⟨by rw [idxI_none ht], rfl⟩)
theorem has_box (H : AHeap) (s : AV) (l : List T6) (hs : Sl H 6 s l.length (r6 l)) (hl : l.length ≤ 1000000000) (g : FuncId) (caps : List AV) (hok : okFn Tryz.prog g = true) (hc : AV.bels H.length caps = true) (p : T6 → Bool) (hf : ∀ j, j < l.length → ACalls Tryz.prog g (.agg [.int .i64 (g61 l j), .int .i64 (g62 l j), .int .i64 (g63 l j), .int .i64 (g64 l j), .int .i64 (g65 l j), .int .i64 (g66 l j)] :: caps) H (fun v H' => v = .bool (p (g61 l j, g62 l j, g63 l j, g64 l j, g65 l j, g66 l j)) ∧ H' = H)) :
    ACalls Tryz.prog 92 [s, .fn g caps] H (fun v H' => v = .bool (l.any p) ∧ H' = H) := by
  have key := idx_box H s l hs hl g caps hok hc p hf
  obtain ⟨b, own, cap, rfl, hb⟩ := hs
  have hbl := getElem?_lt hb
  (refine ACalls_run try_mixed Tryz.func92 true _ rfl (Nat.le_of_ble_eq_true (by kernel_rfl)) (by kernel_rfl) ?_; intro hbel Q hQ hQ' c hc; unfold Tryz.f92 at hc; simp only [Option.some.injEq] at hc; subst hc; clear hQ')
  simp -implicitDefEqProofs (disch := omega) only [simprocAttr, amset, tyset, Function.comp_apply, one1, lenV, calleeOf, lateOk, belowV, aop, AV.ofValue, AV.ofCell, AV.cells, AV.flat, AV.one, arep, aBin, aAppend, aConv]
  refine call_v (by kernel_rfl) key ?_
  simp -implicitDefEqProofs (disch := omega) only [simprocAttr, amset, tyset, Function.comp_apply, one1, lenV, calleeOf, lateOk, belowV, aop, AV.ofValue, AV.ofCell, AV.cells, AV.flat, AV.one, arep, aBin, aAppend, aConv]
  exact hQ _ _ (end_plain0 (.inl rfl) hbel (x := .bool (decide (0 ≤ idxI p l))) (resT Tryz.results92) rfl ⟨by rw [idxI_any], rfl⟩)
open Go.RowKit
theorem small1_c (H : AHeap) (n : Int) : ACalls Tryz.prog 237 [.int .i64 n] H (fun v H' => v = .bool (offB n) ∧ H' = H) := by
  refine AcT true Tryz.func237 ?_; intro hbel Q hQ
  refine runT ?_
  refine gd_split (fun h1 => ?_) (fun h1 => ?_)
  · have h1d := bsT h1
    have g'1 := (jn @h1 @h1d)
    refine runTf g'1 ?_
    exact hQ _ _ (end_plain0 (.inl rfl) hbel (x := .bool (decide (1048576 < n))) (resT Tryz.results237) rfl ⟨by simp [offB, h1d], rfl⟩)
  · have h1d := bsT h1
    have g'2 := (jn @h1 @h1d)
    refine runTf g'2 ?_
    exact hQ _ _ (end_plain0 (.inl rfl) hbel (x := .bool true) (resT Tryz.results237) rfl ⟨by simp [offB, h1d], rfl⟩)
theorem small_c (H : AHeap) (s : AV) (l : List Int) (hs : Sl H 1 s l.length (ints .i64 l)) (hl : l.length ≤ 1000000) : ACalls Tryz.prog 173 [s] H (fun v H' => v = .bool (!(l.any offB)) ∧ H' = H) := by
  obtain ⟨bs, os, cs, rfl, hbs⟩ := hs
  have hbls := getElem?_lt hbs
  have hb0s := fun l => get_app (l := l) hbs
  refine AcT true Tryz.func173 ?_; intro hbel Q hQ
  have g'3 := (jn @hbs @hb0s)
  refine runTf g'3 ?_
  refine call_v (by kernel_rfl) (has_int _ _ l ⟨_, _, _, rfl, by first | exact hb0s _ | exact hbs⟩ (by omega) _ [] (by kernel_rfl) rfl offB (fun j hj => small1_c _ _)) ?_
  refine runTf g'3 ?_
  exact hQ _ _ (end_plain0 (.inl rfl) hbel (x := .bool (!(l.any offB))) (resT Tryz.results173) rfl ⟨rfl, rfl⟩)
theorem varc_c (H : AHeap) (f : Int) (c : Int) : ACalls Tryz.prog 174 [.agg [.int .i64 f, .int .i64 c]] H (fun v H' => v = .bool (arcB f c) ∧ H' = H) := by
  refine AcT true Tryz.func174 ?_; intro hbel Q hQ
  refine runT ?_
  refine gd_split (fun h1 => ?_) (fun h1 => ?_)
  · have h1d := bsT h1
    have g'4 := (jn @h1 @h1d)
    refine runTf g'4 ?_
    refine gd_split (fun h2 => ?_) (fun h2 => ?_)
    · have h2d := bsT h2
      have g'5 := (jn @h2 (jn @h2d g'4))
      refine runTf g'5 ?_
      refine gd_split (fun h3 => ?_) (fun h3 => ?_)
      · have h3d := bsT h3
        have g'6 := (jn @h3 (jn @h3d g'5))
        refine runTf g'6 ?_
        refine gd_split (fun h4 => ?_) (fun h4 => ?_)
        · have h4d := bsT h4
          have g'7 := (jn @h4 (jn @h4d g'6))
          refine runTf g'7 ?_
          refine gd_split (fun h5 => ?_) (fun h5 => ?_)
          · have h5d := bsT h5
            have h5n := bnT h5
            have g'8 := (jn @h5 (jn @h5n (jn @int_bne (jn @int_beq g'7))))
            refine runTf g'8 ?_
            exact hQ _ _ (end_plain (.inl rfl) hbel (x := .bool (decide (c < 256))) (resT Tryz.results174) rfl ⟨by first | (simp [arcB, h1d, h2d, h3d, h4d, h5d]; done) | (simp [arcB, h1d, h2d, h3d, h4d, h5d]; omega), rfl⟩)
          · have h5d := bsT h5
            have h5n := bnT h5
            have g'9 := (jn @h5 (jn @h5n (jn @int_bne (jn @int_beq g'7))))
            refine runTf g'9 ?_
            exact hQ _ _ (end_plain (.inl rfl) hbel (x := .bool true) (resT Tryz.results174) rfl ⟨by first | (simp [arcB, h1d, h2d, h3d, h4d, h5d]; done) | (simp [arcB, h1d, h2d, h3d, h4d, h5d]; omega), rfl⟩)
        · have h4d := bsT h4
          have g'10 := (jn @h4 (jn @h4d g'6))
          refine runTf g'10 ?_
          exact hQ _ _ (end_plain (.inl rfl) hbel (x := .bool false) (resT Tryz.results174) rfl ⟨by first | (simp [arcB, h1d, h2d, h3d, h4d]; done) | (simp [arcB, h1d, h2d, h3d, h4d]; omega), rfl⟩)
      · have h3d := bsT h3
        have g'11 := (jn @h3 (jn @h3d g'5))
        refine runTf g'11 ?_
        exact hQ _ _ (end_plain (.inl rfl) hbel (x := .bool false) (resT Tryz.results174) rfl ⟨by first | (simp [arcB, h1d, h2d, h3d]; done) | (simp [arcB, h1d, h2d, h3d]; omega), rfl⟩)
    · have h2d := bsT h2
      have g'12 := (jn @h2 (jn @h2d g'4))
      refine runTf g'12 ?_
      exact hQ _ _ (end_plain (.inl rfl) hbel (x := .bool false) (resT Tryz.results174) rfl ⟨by first | (simp [arcB, h1d, h2d]; done) | (simp [arcB, h1d, h2d]; omega), rfl⟩)
  · have h1d := bsT h1
    have g'13 := (jn @h1 @h1d)
    refine runTf g'13 ?_
    exact hQ _ _ (end_plain (.inl rfl) hbel (x := .bool false) (resT Tryz.results174) rfl ⟨by first | (simp [arcB, h1d]; done) | (simp [arcB, h1d]; omega), rfl⟩)
theorem barc_c (H : AHeap) (f : Int) (c : Int) : ACalls Tryz.prog 89 [.agg [.int .i64 f, .int .i64 c]] H (fun v H' => v = .bool (arcB f c) ∧ H' = H) := by
  refine AcT true Tryz.func89 ?_; intro hbel Q hQ
  refine runT ?_
  refine gd_split (fun h1 => ?_) (fun h1 => ?_)
  · have h1d := bsT h1
    have g'14 := (jn @h1 @h1d)
    refine runTf g'14 ?_
    refine gd_split (fun h2 => ?_) (fun h2 => ?_)
    · have h2d := bsT h2
      have g'15 := (jn @h2 (jn @h2d g'14))
      refine runTf g'15 ?_
      refine gd_split (fun h3 => ?_) (fun h3 => ?_)
      · have h3d := bsT h3
        have g'16 := (jn @h3 (jn @h3d g'15))
        refine runTf g'16 ?_
        refine gd_split (fun h4 => ?_) (fun h4 => ?_)
        · have h4d := bsT h4
          have g'17 := (jn @h4 (jn @h4d g'16))
          refine runTf g'17 ?_
          refine gd_split (fun h5 => ?_) (fun h5 => ?_)
          · have h5d := bsT h5
            have g'18 := (jn @h5 (jn @h5d g'17))
            refine runTf g'18 ?_
            exact hQ _ _ (end_plain (.inl rfl) hbel (x := .bool (f == 0)) (resT Tryz.results89) rfl ⟨by rw [← arcR_eq]; first | (simp [arcR, h1d, h2d, h3d, h4d, h5d]; done) | (simp [arcR, h1d, h2d, h3d, h4d, h5d]; omega), rfl⟩)
          · have h5d := bsT h5
            have g'19 := (jn @h5 (jn @h5d g'17))
            refine runTf g'19 ?_
            exact hQ _ _ (end_plain (.inl rfl) hbel (x := .bool true) (resT Tryz.results89) rfl ⟨by rw [← arcR_eq]; first | (simp [arcR, h1d, h2d, h3d, h4d, h5d]; done) | (simp [arcR, h1d, h2d, h3d, h4d, h5d]; omega), rfl⟩)
        · have h4d := bsT h4
          have g'20 := (jn @h4 (jn @h4d g'16))
          refine runTf g'20 ?_
          exact hQ _ _ (end_plain (.inl rfl) hbel (x := .bool false) (resT Tryz.results89) rfl ⟨by rw [← arcR_eq]; first | (simp [arcR, h1d, h2d, h3d, h4d]; done) | (simp [arcR, h1d, h2d, h3d, h4d]; omega), rfl⟩)
      · have h3d := bsT h3
        have g'21 := (jn @h3 (jn @h3d g'15))
        refine runTf g'21 ?_
        exact hQ _ _ (end_plain (.inl rfl) hbel (x := .bool false) (resT Tryz.results89) rfl ⟨by rw [← arcR_eq]; first | (simp [arcR, h1d, h2d, h3d]; done) | (simp [arcR, h1d, h2d, h3d]; omega), rfl⟩)
    · have h2d := bsT h2
      have g'22 := (jn @h2 (jn @h2d g'14))
      refine runTf g'22 ?_
      exact hQ _ _ (end_plain (.inl rfl) hbel (x := .bool false) (resT Tryz.results89) rfl ⟨by rw [← arcR_eq]; first | (simp [arcR, h1d, h2d]; done) | (simp [arcR, h1d, h2d]; omega), rfl⟩)
  · have h1d := bsT h1
    have g'23 := (jn @h1 @h1d)
    refine runTf g'23 ?_
    exact hQ _ _ (end_plain (.inl rfl) hbel (x := .bool false) (resT Tryz.results89) rfl ⟨by rw [← arcR_eq]; first | (simp [arcR, h1d]; done) | (simp [arcR, h1d]; omega), rfl⟩)
theorem xarc_c (H : AHeap) (x0 : Int) (y0 : Int) (x1 : Int) (y1 : Int) (f : Int) (c : Int) : ACalls Tryz.prog 171 [.agg [.int .i64 x0, .int .i64 y0, .int .i64 x1, .int .i64 y1, .int .i64 f, .int .i64 c]] H (fun v H' => v = .agg [.int .i64 f, .int .i64 c] ∧ H' = H) := by
  refine AcT true Tryz.func171 ?_; intro hbel Q hQ
  refine runT ?_
  exact hQ _ _ (end_plain (.inl rfl) hbel (x := .agg [.int .i64 f, .int .i64 c]) (resT Tryz.results171) rfl ⟨rfl, rfl⟩)
theorem bxv_c (H : AHeap) (x0 : Int) (y0 : Int) (x1 : Int) (y1 : Int) (f : Int) (c : Int) : ACalls Tryz.prog 96 [.agg [.int .i64 x0, .int .i64 y0, .int .i64 x1, .int .i64 y1, .int .i64 f, .int .i64 c]] H (fun v H' => v = .bool (bxB x0 y0 x1 y1 f c) ∧ H' = H) := by
  refine AcT true Tryz.func96 ?_; intro hbel Q hQ
  refine runT ?_
  refine gd_split (fun h1 => ?_) (fun h1 => ?_)
  · have h1d := bsT h1
    have g'24 := (jn @h1 @h1d)
    refine runTf g'24 ?_
    refine gd_split (fun h2 => ?_) (fun h2 => ?_)
    · have h2d := bsT h2
      have g'25 := (jn @h2 (jn @h2d g'24))
      refine runTf g'25 ?_
      refine call_v (by kernel_rfl) (small_c _ _ [x0, y0, x1, y1] ⟨_, _, _, by first | rfl | (rw [List.length_append]; done) | (rw [List.length_append]; rfl), by first | rfl | (rw [get_newk]; rfl) | (rw [get_new0]; rfl) | (rw [get_newk, prs_append]; rfl) | (rw [get_new0, prs_append]; rfl)⟩ (by first | decide | omega | simp)) ?_
      refine runTf g'25 ?_
      refine gd_split (fun h3 => ?_) (fun h3 => ?_)
      · have h3d := bsT h3
        have g'26 := (jn @h3 (jn @h3d g'25))
        refine runTf g'26 ?_
        refine call_v (by kernel_rfl) (xarc_c _ x0 y0 x1 y1 f c) ?_
        refine runTf g'26 ?_
        refine call_v (by kernel_rfl) (varc_c _ f c) ?_
        refine runTf g'26 ?_
        exact hQ _ _ (end_plain (.inl rfl) hbel (x := .bool (arcB f c)) (resT Tryz.results96) rfl ⟨by first | (simp [bxB, h1d, h2d, h3d]; done) | (unfold bxB; simp only [h1d, h2d, h3d]; rfl), rfl⟩)
      · have h3d := bsT h3
        have g'27 := (jn @h3 (jn @h3d g'25))
        refine runTf g'27 ?_
        exact hQ _ _ (end_plain (.inl rfl) hbel (x := .bool false) (resT Tryz.results96) rfl ⟨by first | (simp [bxB, h1d, h2d, h3d]; done) | (unfold bxB; simp only [h1d, h2d, h3d]; rfl), rfl⟩)
    · have h2d := bsT h2
      have g'28 := (jn @h2 (jn @h2d g'24))
      refine runTf g'28 ?_
      exact hQ _ _ (end_plain (.inl rfl) hbel (x := .bool false) (resT Tryz.results96) rfl ⟨by first | (simp [bxB, h1d, h2d]; done) | (unfold bxB; simp only [h1d, h2d]; rfl), rfl⟩)
  · have h1d := bsT h1
    have g'29 := (jn @h1 @h1d)
    refine runTf g'29 ?_
    exact hQ _ _ (end_plain (.inl rfl) hbel (x := .bool false) (resT Tryz.results96) rfl ⟨by first | (simp [bxB, h1d]; done) | (unfold bxB; simp only [h1d]; rfl), rfl⟩)
theorem bbx_c (H : AHeap) (x0 : Int) (y0 : Int) (x1 : Int) (y1 : Int) (f : Int) (c : Int) : ACalls Tryz.prog 38 [.agg [.int .i64 x0, .int .i64 y0, .int .i64 x1, .int .i64 y1, .int .i64 f, .int .i64 c]] H (fun v H' => v = .bool (bxB x0 y0 x1 y1 f c) ∧ H' = H) := by
  refine AcT true Tryz.func38 ?_; intro hbel Q hQ
  refine runT ?_
  refine gd_split (fun h1 => ?_) (fun h1 => ?_)
  · have h1d := bsT h1
    have g'30 := (jn @h1 @h1d)
    refine runTf g'30 ?_
    refine gd_split (fun h2 => ?_) (fun h2 => ?_)
    · have h2d := bsT h2
      have g'31 := (jn @h2 (jn @h2d g'30))
      refine runTf g'31 ?_
      refine gd_split (fun h3 => ?_) (fun h3 => ?_)
      · have h3d := bsT h3
        have g'32 := (jn @h3 (jn @h3d g'31))
        refine runTf g'32 ?_
        refine gd_split (fun h4 => ?_) (fun h4 => ?_)
        · have h4d := bsT h4
          have g'33 := (jn @h4 (jn @h4d g'32))
          refine runTf g'33 ?_
          refine gd_split (fun h5 => ?_) (fun h5 => ?_)
          · have h5d := bsT h5
            have g'34 := (jn @h5 (jn @h5d g'33))
            refine runTf g'34 ?_
            refine gd_split (fun h6 => ?_) (fun h6 => ?_)
            · have h6d := bsT h6
              have g'35 := (jn @h6 (jn @h6d g'34))
              refine runTf g'35 ?_
              refine call_v (by kernel_rfl) (barc_c _ f c) ?_
              refine runTf g'35 ?_
              exact hQ _ _ (end_plain (.inl rfl) hbel (x := .bool (arcB f c)) (resT Tryz.results38) rfl ⟨by rw [← bxR_eq]; simp [bxR, h1d, h2d, h3d, h4d, h5d, h6d], rfl⟩)
            · have h6d := bsT h6
              have g'36 := (jn @h6 (jn @h6d g'34))
              refine runTf g'36 ?_
              exact hQ _ _ (end_plain (.inl rfl) hbel (x := .bool false) (resT Tryz.results38) rfl ⟨by rw [← bxR_eq]; simp [bxR, h1d, h2d, h3d, h4d, h5d, h6d], rfl⟩)
          · have h5d := bsT h5
            have g'37 := (jn @h5 (jn @h5d g'33))
            refine runTf g'37 ?_
            exact hQ _ _ (end_plain (.inl rfl) hbel (x := .bool false) (resT Tryz.results38) rfl ⟨by rw [← bxR_eq]; simp [bxR, h1d, h2d, h3d, h4d, h5d], rfl⟩)
        · have h4d := bsT h4
          have g'38 := (jn @h4 (jn @h4d g'32))
          refine runTf g'38 ?_
          exact hQ _ _ (end_plain (.inl rfl) hbel (x := .bool false) (resT Tryz.results38) rfl ⟨by rw [← bxR_eq]; simp [bxR, h1d, h2d, h3d, h4d], rfl⟩)
      · have h3d := bsT h3
        have g'39 := (jn @h3 (jn @h3d g'31))
        refine runTf g'39 ?_
        exact hQ _ _ (end_plain (.inl rfl) hbel (x := .bool false) (resT Tryz.results38) rfl ⟨by rw [← bxR_eq]; simp [bxR, h1d, h2d, h3d], rfl⟩)
    · have h2d := bsT h2
      have g'40 := (jn @h2 (jn @h2d g'30))
      refine runTf g'40 ?_
      exact hQ _ _ (end_plain (.inl rfl) hbel (x := .bool false) (resT Tryz.results38) rfl ⟨by rw [← bxR_eq]; simp [bxR, h1d, h2d], rfl⟩)
  · have h1d := bsT h1
    have g'41 := (jn @h1 @h1d)
    refine runTf g'41 ?_
    exact hQ _ _ (end_plain (.inl rfl) hbel (x := .bool false) (resT Tryz.results38) rfl ⟨by rw [← bxR_eq]; simp [bxR, h1d], rfl⟩)
open Go.RowKit
open Go.RowKit
theorem arep_z {k : IntKind} {n : Nat} : (List.range n).map (fun j => ([.int k 0] : List AV).getD (j % 1) .any) = ints k (List.replicate n 0) := by
  rw [← ints_rep]
  refine List.ext_getElem (by simp) fun i h1 h2 => ?_
  simp [Nat.mod_one]
def lisS (f : Int) (n i : Nat) : List Int := mrkL f i ++ List.replicate (n - i) 0
theorem lisS_len {f : Int} {n i : Nat} (h : i ≤ n) : (lisS f n i).length = n := by unfold lisS; rw [List.length_append, mrkL_len, List.length_replicate]; omega
theorem lisS_set {f : Int} {n i : Nat} (h : i < n) : (lisS f n i).set i ((f + (i : Int)) % 256) = lisS f n (i + 1) := by
  unfold lisS
  obtain ⟨k, hk⟩ : ∃ k, n - i = k + 1 := ⟨n - i - 1, by omega⟩
  rw [hk, List.replicate_succ, List.set_append_right _ _ (by rw [mrkL_len]; exact Nat.le_refl _), mrkL_len, Nat.sub_self, List.set_cons_zero, mrkL_succ, List.append_assoc, show n - (i + 1) = k by omega]
  rfl
theorem lisS_0 (f : Int) (n : Nat) : lisS f n 0 = List.replicate n 0 := rfl
theorem lisS_n (f : Int) (n : Nat) : lisS f n n = mrkL f n := by unfold lisS; rw [Nat.sub_self]; simp
theorem hlist_c (H : AHeap) (f : Int) (c : Int) (ha : arcB f c = true) : ACalls Tryz.prog 113 [.agg [.int .i64 f, .int .i64 c]] H (fun v H' => v = .sl (some (H.length, 0)) ((mrkL f c.toNat).length) none ∧ H' = H ++ [.cells true 1 (ints .i64 (mrkL f c.toNat))]) := by
  have ka := arcB_iff.1 ha
  have harep := arep_z (k := .i64) (n := c.toNat)
  have hrt : ((c.toNat : Nat) : Int) = c := by omega
  refine AcT true Tryz.func113 ?_; intro hbel Q hQ
  have g'7 := (jn @ha (jn @harep @hrt))
  refine runTf g'7 ?_
  refine call_v (by kernel_rfl) (varc_c _ f c) ?_
  have g'8 := (jn @ints_rep (jn @List.length_replicate.{0} g'7))
  refine runTf g'8 ?_
  refine go_loop try_mixed (by kernel_rfl) (fun k F Hx => ∃ i : Nat, i + k = c.toNat ∧ F = [(1, .ptr (some (H.length, 0))), (3, .sl (some (H.length + 1, 0)) ((lisS f c.toNat i).length) none), (12, .int .i64 ((c.toNat : Nat) : Int)), (13, .int .i64 ((i : Nat) : Int))] ∧ Hx = H ++ [.cells true 0 [.int .i64 f, .int .i64 c], .cells true 1 (ints .i64 (lisS f c.toNat i))]) (c.toNat) ?_ ?_
  · refine ⟨_, _, _, ⟨0, by omega, rfl, rfl⟩, Abs.byG hbel [] rfl [0, 1] (by decide) ?_⟩
    exact absRf (jn @lisS_0 (jn @List.length_replicate.{0} @hrt))
  · rintro k0 F Hx ⟨i, hm0, rfl, rfl⟩ J0 hJ0
    have hln := lisS_len (f := f) (n := c.toNat) (i := i) (by omega)
    have g'9 := (jn @ints_len (jn @ints_ones g'8))
    refine runTf g'9 ?_
    refine cond_split (fun h1 => ?_) (fun h1 => ?_)
    · have h1d := bsT h1
      have hln2 := lisS_len (f := f) (n := c.toNat) (i := i + 1) (by omega)
      have hst : (lisS f c.toNat i).set i ((((f + ((i : Nat) : Int)) % 256).toNat : Nat) : Int) = lisS f c.toNat (i + 1) := by rw [show ((((f + ((i : Nat) : Int)) % 256).toNat : Nat) : Int) = (f + ((i : Nat) : Int)) % 256 by omega]; exact lisS_set (by omega)
      have g'10 := (jn @h1 (jn @h1d g'9))
      refine runTf g'10 ?_
      refine call_v (by kernel_rfl) (mark_c _ (f + ((i : Nat) : Int))) ?_
      have g'11 := (jn @ints_set1 (jn @List.length_set.{0} g'10))
      refine runTf g'11 ?_
      refine hJ0 _ _ ⟨k0 - 1, by omega, _, _, _, ⟨i + 1, by omega, rfl, rfl⟩, Abs.byG hbel [] rfl [0, 1] (by decide) ?_⟩
      exact absRf (jn @hst (jn @List.length_set.{0} (jn @hln (jn @hln2 @hrt))))
    · have h1d := bsT h1
      obtain rfl : i = c.toNat := by omega
      have g'12 := (jn @h1 (jn @h1d g'9))
      refine runTf g'12 ?_
      refine hQ _ _ (end_byG (.inl rfl) hbel (x1 := .sl (some (H.length + 1, 0)) ((lisS f c.toNat c.toNat).length) none) (l2 := [.cells true 1 (ints .i64 (lisS f c.toNat c.toNat))]) (.sl (some (H.length, 0)) ((lisS f c.toNat c.toNat).length) none) (resT Tryz.results113) [] rfl [1] (by decide) ⟨by rw [lisS_n], by rw [lisS_n]⟩ ?_)
      exact absW
theorem rect_c (H : AHeap) (x0 : Int) (y0 : Int) (x1 : Int) (y1 : Int) (f : Int) (c : Int) (ha : bxB x0 y0 x1 y1 f c = true) : ACalls Tryz.prog 115 [.agg [.int .i64 x0, .int .i64 y0, .int .i64 x1, .int .i64 y1, .int .i64 f, .int .i64 c]] H (fun v H' => v = .agg [.int .i64 x0, .int .i64 y0, .int .i64 x1, .int .i64 y1] ∧ H' = H) := by
  refine AcT true Tryz.func115 ?_; intro hbel Q hQ
  have g'13 := @ha
  refine runTf g'13 ?_
  refine call_v (by kernel_rfl) (bxv_c _ x0 y0 x1 y1 f c) ?_
  refine runTf g'13 ?_
  exact hQ _ _ (end_plain (.inl rfl) hbel (x := .agg [.int .i64 x0, .int .i64 y0, .int .i64 x1, .int .i64 y1]) (resT Tryz.results115) rfl ⟨rfl, rfl⟩)
open Go.RowKit
theorem hvv_c (H : AHeap) (vx : Int) (vy : Int) (vd : Int) : ACalls Tryz.prog 324 [.agg [.int .i64 vx, .int .i64 vy, .int .i64 vd]] H (fun v H' => v = .bool (vecB vx vy vd) ∧ H' = H) := by
  refine AcT true Tryz.func324 ?_; intro hbel Q hQ
  refine runT ?_
  refine gd_split (fun h1 => ?_) (fun h1 => ?_)
  · have h1d := bsT h1
    have g'1 := (jn @h1 @h1d)
    refine runTf g'1 ?_
    refine gd_split (fun h2 => ?_) (fun h2 => ?_)
    · have h2d := bsT h2
      have g'2 := (jn @h2 (jn @h2d g'1))
      refine runTf g'2 ?_
      refine gd_split (fun h3 => ?_) (fun h3 => ?_)
      · have h3d := bsT h3
        have g'3 := (jn @h3 (jn @h3d g'2))
        refine runTf g'3 ?_
        refine gd_split (fun h4 => ?_) (fun h4 => ?_)
        · have h4d := bsT h4
          have g'4 := (jn @h4 (jn @h4d g'3))
          refine runTf g'4 ?_
          refine gd_split (fun h5 => ?_) (fun h5 => ?_)
          · have h5d := bsT h5
            have g'5 := (jn @h5 (jn @h5d g'4))
            refine runTf g'5 ?_
            refine cond_split (fun h6 => ?_) (fun h6 => ?_)
            · have h6d := bsT h6
              have g'6 := (jn @h6 (jn @h6d g'5))
              refine runTf g'6 ?_
              exact hQ _ _ (end_plain (.inl rfl) hbel (x := .bool false) (resT Tryz.results324) rfl ⟨by first | (refine congrArg AV.bool ?_; rw [Bool.eq_iff_iff, vecB_iff, beq_iff_eq]; exact ⟨fun e => ⟨⟨by omega, by omega⟩, ⟨by omega, by omega⟩, ⟨by omega, by omega⟩, e⟩, fun e => e.2.2.2⟩) | (refine congrArg AV.bool ?_; rw [Bool.eq_iff_iff, vecB_iff]; exact ⟨fun e => (by cases e), fun k => (by omega)⟩), rfl⟩)
            · have h6d := bsT h6
              have hm1 := mul_bd (a := vx) (b := vx) (A := 67108864) (B := 67108864) (by omega) (by omega)
              have hm2 := mul_bd (a := vy) (b := vy) (A := 67108864) (B := 67108864) (by omega) (by omega)
              have hm3 := mul_bd (a := vd) (b := vd) (A := 67108864) (B := 67108864) (by omega) (by omega)
              have g'7 := (jn @h6 (jn @h6d g'5))
              refine runTf g'7 ?_
              exact hQ _ _ (end_plain (.inl rfl) hbel (x := .bool (((vx * vx) + (vy * vy)) == (vd * vd))) (resT Tryz.results324) rfl ⟨by first | (refine congrArg AV.bool ?_; rw [Bool.eq_iff_iff, vecB_iff, beq_iff_eq]; exact ⟨fun e => ⟨⟨by omega, by omega⟩, ⟨by omega, by omega⟩, ⟨by omega, by omega⟩, e⟩, fun e => e.2.2.2⟩) | (refine congrArg AV.bool ?_; rw [Bool.eq_iff_iff, vecB_iff]; exact ⟨fun e => (by cases e), fun k => (by omega)⟩), rfl⟩)
          · have h5d := bsT h5
            have g'8 := (jn @h5 (jn @h5d g'4))
            refine runTf g'8 ?_
            exact hQ _ _ (end_plain (.inl rfl) hbel (x := .bool false) (resT Tryz.results324) rfl ⟨by first | (refine congrArg AV.bool ?_; rw [Bool.eq_iff_iff, vecB_iff, beq_iff_eq]; exact ⟨fun e => ⟨⟨by omega, by omega⟩, ⟨by omega, by omega⟩, ⟨by omega, by omega⟩, e⟩, fun e => e.2.2.2⟩) | (refine congrArg AV.bool ?_; rw [Bool.eq_iff_iff, vecB_iff]; exact ⟨fun e => (by cases e), fun k => (by omega)⟩), rfl⟩)
        · have h4d := bsT h4
          have g'9 := (jn @h4 (jn @h4d g'3))
          refine runTf g'9 ?_
          exact hQ _ _ (end_plain (.inl rfl) hbel (x := .bool false) (resT Tryz.results324) rfl ⟨by first | (refine congrArg AV.bool ?_; rw [Bool.eq_iff_iff, vecB_iff, beq_iff_eq]; exact ⟨fun e => ⟨⟨by omega, by omega⟩, ⟨by omega, by omega⟩, ⟨by omega, by omega⟩, e⟩, fun e => e.2.2.2⟩) | (refine congrArg AV.bool ?_; rw [Bool.eq_iff_iff, vecB_iff]; exact ⟨fun e => (by cases e), fun k => (by omega)⟩), rfl⟩)
      · have h3d := bsT h3
        have g'10 := (jn @h3 (jn @h3d g'2))
        refine runTf g'10 ?_
        exact hQ _ _ (end_plain (.inl rfl) hbel (x := .bool false) (resT Tryz.results324) rfl ⟨by first | (refine congrArg AV.bool ?_; rw [Bool.eq_iff_iff, vecB_iff, beq_iff_eq]; exact ⟨fun e => ⟨⟨by omega, by omega⟩, ⟨by omega, by omega⟩, ⟨by omega, by omega⟩, e⟩, fun e => e.2.2.2⟩) | (refine congrArg AV.bool ?_; rw [Bool.eq_iff_iff, vecB_iff]; exact ⟨fun e => (by cases e), fun k => (by omega)⟩), rfl⟩)
    · have h2d := bsT h2
      have g'11 := (jn @h2 (jn @h2d g'1))
      refine runTf g'11 ?_
      exact hQ _ _ (end_plain (.inl rfl) hbel (x := .bool false) (resT Tryz.results324) rfl ⟨by first | (refine congrArg AV.bool ?_; rw [Bool.eq_iff_iff, vecB_iff, beq_iff_eq]; exact ⟨fun e => ⟨⟨by omega, by omega⟩, ⟨by omega, by omega⟩, ⟨by omega, by omega⟩, e⟩, fun e => e.2.2.2⟩) | (refine congrArg AV.bool ?_; rw [Bool.eq_iff_iff, vecB_iff]; exact ⟨fun e => (by cases e), fun k => (by omega)⟩), rfl⟩)
  · have h1d := bsT h1
    have g'12 := (jn @h1 @h1d)
    refine runTf g'12 ?_
    exact hQ _ _ (end_plain (.inl rfl) hbel (x := .bool false) (resT Tryz.results324) rfl ⟨by first | (refine congrArg AV.bool ?_; rw [Bool.eq_iff_iff, vecB_iff, beq_iff_eq]; exact ⟨fun e => ⟨⟨by omega, by omega⟩, ⟨by omega, by omega⟩, ⟨by omega, by omega⟩, e⟩, fun e => e.2.2.2⟩) | (refine congrArg AV.bool ?_; rw [Bool.eq_iff_iff, vecB_iff]; exact ⟨fun e => (by cases e), fun k => (by omega)⟩), rfl⟩)
theorem hturn_c (H : AHeap) (a : Vec) (b : Vec) (ha : vecOK a = true) (hb : vecOK b = true) : ACalls Tryz.prog 283 [.agg [.int .i64 a.1, .int .i64 a.2.1, .int .i64 a.2.2], .agg [.int .i64 b.1, .int .i64 b.2.1, .int .i64 b.2.2]] H (fun v H' => v = .tup [.agg [.int .i64 ((turV a b).1), .int .i64 ((turV a b).2.1), .int .i64 ((turV a b).2.2)], .int .i64 0] ∧ H' = H) := by
  have hka := vecOK_iff.1 ha
  have hkb := vecOK_iff.1 hb
  have hBa := vecOK_B ha
  have hBb := vecOK_B hb
  have hT := (vecB_iff.1 (tur_ok ha hb)).1
  unfold turV at hT
  have hm0 := mul_bd (a := a.1) (b := b.1) (A := 8065) (B := 8065) (by omega) (by omega)
  have hm1 := mul_bd (a := a.2.1) (b := b.2.1) (A := 8065) (B := 8065) (by omega) (by omega)
  have hm2 := mul_bd (a := a.1) (b := b.2.1) (A := 8065) (B := 8065) (by omega) (by omega)
  have hm3 := mul_bd (a := a.2.1) (b := b.1) (A := 8065) (B := 8065) (by omega) (by omega)
  have hm4 := mul_bd (a := a.2.2) (b := b.2.2) (A := 8065) (B := 8065) (by omega) (by omega)
  have hpd : 0 < a.2.2 * b.2.2 := Int.mul_pos (by omega) (by omega)
  have hnr : decide (67108864 < (lowV (a.1 * b.1 - a.2.1 * b.2.1) (a.1 * b.2.1 + a.2.1 * b.1) (a.2.2 * b.2.2)).2.2) = false := decide_eq_false (by omega)
  refine AcT true Tryz.func283 ?_; intro hbel Q hQ
  have g'23 := (jn @hBa (jn @hBb @hnr))
  refine runTf g'23 ?_
  refine call_v (by kernel_rfl) (hvv_c _ a.1 a.2.1 a.2.2) ?_
  refine runTf g'23 ?_
  refine call_v (by kernel_rfl) (hvv_c _ b.1 b.2.1 b.2.2) ?_
  refine runTf g'23 ?_
  refine call_v (by kernel_rfl) (low_c _ ((a.1 * b.1) - (a.2.1 * b.2.1)) ((a.1 * b.2.1) + (a.2.1 * b.1)) (a.2.2 * b.2.2) (by omega) (by omega) (by omega) (by omega)) ?_
  refine runTf g'23 ?_
  exact hQ _ _ (end_plain (.inl rfl) hbel (x := .tup [.agg [.int .i64 ((lowV ((a.1 * b.1) - (a.2.1 * b.2.1)) ((a.1 * b.2.1) + (a.2.1 * b.1)) (a.2.2 * b.2.2)).1), .int .i64 ((lowV ((a.1 * b.1) - (a.2.1 * b.2.1)) ((a.1 * b.2.1) + (a.2.1 * b.1)) (a.2.2 * b.2.2)).2.1), .int .i64 ((lowV ((a.1 * b.1) - (a.2.1 * b.2.1)) ((a.1 * b.2.1) + (a.2.1 * b.1)) (a.2.2 * b.2.2)).2.2)], .int .i64 0]) (resT Tryz.results283) rfl ⟨rfl, rfl⟩)
theorem hbeam_c (H : AHeap) (h : Int) (m : Int) : ACalls Tryz.prog 227 [.int .i64 h, .int .i64 m] H (fun v H' => v = .agg [.int .i64 ((beamV h m).1), .int .i64 ((beamV h m).2.1), .int .i64 ((beamV h m).2.2)] ∧ H' = H) := by
  refine AcT true Tryz.func227 ?_; intro hbel Q hQ
  refine runT ?_
  refine call_v (by kernel_rfl) (dir_c _ h) ?_
  refine runT ?_
  refine call_v (by kernel_rfl) (dir_c _ m) ?_
  refine runT ?_
  refine call_v (by kernel_rfl) (hturn_c _ (dirV h) (dirV m) (dirV_ok _) (dirV_ok _)) ?_
  refine runT ?_
  exact hQ _ _ (end_plain (.inl rfl) hbel (x := .agg [.int .i64 ((turV (dirV h) (dirV m)).1), .int .i64 ((turV (dirV h) (dirV m)).2.1), .int .i64 ((turV (dirV h) (dirV m)).2.2)]) (resT Tryz.results227) rfl ⟨rfl, rfl⟩)
open Go.RowKit
set_option maxRecDepth 100000 in
theorem idx_r (H : AHeap) (s : AV) (l : List T9) (hs : Sl H 9 s l.length (r9 l)) (hl : l.length ≤ 1000000000) (g : FuncId) (caps : List AV) (hok : okFn Tryz.prog g = true) (hc : AV.bels H.length caps = true) (p : T9 → Bool) (hf : ∀ j, j < l.length → ACalls Tryz.prog g (.agg [.int .i64 (g91 l j), .int .i64 (g92 l j), .int .i64 (g93 l j), .int .i64 (g94 l j), .int .i64 (g95 l j), .int .i64 (g96 l j), .int .i64 (g97 l j), .int .i64 (g98 l j), .int .i64 (g99 l j)] :: caps) H (fun v H' => v = .bool (p (g91 l j, g92 l j, g93 l j, g94 l j, g95 l j, g96 l j, g97 l j, g98 l j, g99 l j)) ∧ H' = H)) :
    ACalls Tryz.prog 268 [s, .fn g caps] H (fun v H' => v = .int .i64 (idxI p l) ∧ H' = H) := by
  obtain ⟨b, own, cap, rfl, hb⟩ := hs
  have hbl := getElem?_lt hb
  have hmv := fun m sel => mvs_caps (n := H.length) (m := m) (sel := sel) hc
  (refine ACalls_run try_mixed Tryz.func268 true _ rfl (Nat.le_of_ble_eq_true (by kernel_rfl)) (by kernel_rfl) ?_; intro hbel Q hQ hQ' c hc; unfold Tryz.f268 at hc; simp only [Option.some.injEq] at hc; subst hc; clear hQ')
  simp -implicitDefEqProofs (disch := omega) only [simprocAttr, amset, tyset, Function.comp_apply, one1, lenV, calleeOf, lateOk, belowV, aop, AV.ofValue, AV.ofCell, AV.cells, AV.flat, AV.one, arep, aBin, aAppend, aConv]
  refine go_loop try_mixed (by kernel_rfl) (fun k F Hx => ∃ i : Nat, i + k = l.length ∧ (l.take i).any p = false ∧ F = [(0, .sl (some (b, 0)) l.length none), (1, .fn g caps), (7, .int .i64 l.length), (8, .int .i64 (i : Nat))] ∧ Hx = H) l.length ?_ ?_
  · refine ⟨_, _, _, ⟨0, by omega, rfl, rfl, rfl⟩, Abs.by0 hbel ?_⟩
    exact absWf @hmv
  · rintro k F Hx ⟨i, hik, ht, rfl, rfl⟩ J hJ
    by_cases hi : i < l.length
    · have hii : (i : Int) < (l.length : Int) := by omega
      have q1 := r9_load hi
      have hg := g9_eq hi
      simp -implicitDefEqProofs (disch := omega) only [hii, hb, q1, r9_len, r9_one, simprocAttr, amset, tyset, Function.comp_apply, one1, lenV, calleeOf, lateOk, belowV, aop, AV.ofValue, AV.ofCell, AV.cells, AV.flat, AV.one, arep, aBin, aAppend, aConv]
      iterate 2 refine And.intro (by omega) ?_
      refine call_v hok (hf i hi) ?_
      have hst := any_step (p := p) hi
      rw [ht, Bool.false_or, ← hg] at hst
      cases h1 : p (g91 l i, g92 l i, g93 l i, g94 l i, g95 l i, g96 l i, g97 l i, g98 l i, g99 l i)
      · rw [h1] at hst
        simp -implicitDefEqProofs (disch := omega) only [h1, simprocAttr, amset, tyset, Function.comp_apply, one1, lenV, calleeOf, lateOk, belowV, aop, AV.ofValue, AV.ofCell, AV.cells, AV.flat, AV.one, arep, aBin, aAppend, aConv]
        refine hJ _ _ ⟨k - 1, by omega, _, _, _, ⟨i + 1, by omega, hst, rfl, rfl⟩, Abs.by0 hbel ?_⟩
        exact absWf @hmv
      · simp -implicitDefEqProofs (disch := omega) only [h1, simprocAttr, amset, tyset, Function.comp_apply, one1, lenV, calleeOf, lateOk, belowV, aop, AV.ofValue, AV.ofCell, AV.cells, AV.flat, AV.one, arep, aBin, aAppend, aConv]
        exact hQ _ _ (end_plain0 (.inl rfl) hbel (x := .int .i64 (i : Nat)) (resT Tryz.results268) rfl ⟨by rw [idxI_at hi ht (by rw [← hg]; exact h1)], rfl⟩)
    · have hnn : ¬ ((i : Int) < (l.length : Int)) := by omega
      simp -implicitDefEqProofs (disch := omega) only [hnn, simprocAttr, amset, tyset, Function.comp_apply, one1, lenV, calleeOf, lateOk, belowV, aop, AV.ofValue, AV.ofCell, AV.cells, AV.flat, AV.one, arep, aBin, aAppend, aConv]
      rw [List.take_of_length_le (by omega)] at ht
      exact hQ _ _ (end_plain0 (.inl rfl) hbel (x := .int .i64 (-1)) (resT Tryz.results268) rfl ⟨by rw [idxI_none ht], rfl⟩)
theorem has_r (H : AHeap) (s : AV) (l : List T9) (hs : Sl H 9 s l.length (r9 l)) (hl : l.length ≤ 1000000000) (g : FuncId) (caps : List AV) (hok : okFn Tryz.prog g = true) (hc : AV.bels H.length caps = true) (p : T9 → Bool) (hf : ∀ j, j < l.length → ACalls Tryz.prog g (.agg [.int .i64 (g91 l j), .int .i64 (g92 l j), .int .i64 (g93 l j), .int .i64 (g94 l j), .int .i64 (g95 l j), .int .i64 (g96 l j), .int .i64 (g97 l j), .int .i64 (g98 l j), .int .i64 (g99 l j)] :: caps) H (fun v H' => v = .bool (p (g91 l j, g92 l j, g93 l j, g94 l j, g95 l j, g96 l j, g97 l j, g98 l j, g99 l j)) ∧ H' = H)) :
    ACalls Tryz.prog 221 [s, .fn g caps] H (fun v H' => v = .bool (l.any p) ∧ H' = H) := by
  have key := idx_r H s l hs hl g caps hok hc p hf
  obtain ⟨b, own, cap, rfl, hb⟩ := hs
  have hbl := getElem?_lt hb
  (refine ACalls_run try_mixed Tryz.func221 true _ rfl (Nat.le_of_ble_eq_true (by kernel_rfl)) (by kernel_rfl) ?_; intro hbel Q hQ hQ' c hc; unfold Tryz.f221 at hc; simp only [Option.some.injEq] at hc; subst hc; clear hQ')
  simp -implicitDefEqProofs (disch := omega) only [simprocAttr, amset, tyset, Function.comp_apply, one1, lenV, calleeOf, lateOk, belowV, aop, AV.ofValue, AV.ofCell, AV.cells, AV.flat, AV.one, arep, aBin, aAppend, aConv]
  refine call_v (by kernel_rfl) key ?_
  simp -implicitDefEqProofs (disch := omega) only [simprocAttr, amset, tyset, Function.comp_apply, one1, lenV, calleeOf, lateOk, belowV, aop, AV.ofValue, AV.ofCell, AV.cells, AV.flat, AV.one, arep, aBin, aAppend, aConv]
  exact hQ _ _ (end_plain0 (.inl rfl) hbel (x := .bool (decide (0 ≤ idxI p l))) (resT Tryz.results221) rfl ⟨by rw [idxI_any], rfl⟩)
open Go.RowKit
set_option maxRecDepth 100000 in
theorem idx_m (H : AHeap) (s : AV) (l : List (Int × Int)) (hs : Sl H 2 s l.length (prs l)) (hl : l.length ≤ 1000000000) (g : FuncId) (caps : List AV) (hok : okFn Tryz.prog g = true) (hc : AV.bels H.length caps = true) (p : (Int × Int) → Bool) (hf : ∀ j, j < l.length → ACalls Tryz.prog g (.agg [.int .i64 (g1 l j), .int .i64 (g2 l j)] :: caps) H (fun v H' => v = .bool (p (g1 l j, g2 l j)) ∧ H' = H)) :
    ACalls Tryz.prog 216 [s, .fn g caps] H (fun v H' => v = .int .i64 (idxI p l) ∧ H' = H) := by
  obtain ⟨b, own, cap, rfl, hb⟩ := hs
  have hbl := getElem?_lt hb
  have hmv := fun m sel => mvs_caps (n := H.length) (m := m) (sel := sel) hc
  (refine ACalls_run try_mixed Tryz.func216 true _ rfl (Nat.le_of_ble_eq_true (by kernel_rfl)) (by kernel_rfl) ?_; intro hbel Q hQ hQ' c hc; unfold Tryz.f216 at hc; simp only [Option.some.injEq] at hc; subst hc; clear hQ')
  simp -implicitDefEqProofs (disch := omega) only [simprocAttr, amset, tyset, Function.comp_apply, one1, lenV, calleeOf, lateOk, belowV, aop, AV.ofValue, AV.ofCell, AV.cells, AV.flat, AV.one, arep, aBin, aAppend, aConv]
  refine go_loop try_mixed (by kernel_rfl) (fun k F Hx => ∃ i : Nat, i + k = l.length ∧ (l.take i).any p = false ∧ F = [(0, .sl (some (b, 0)) l.length none), (1, .fn g caps), (7, .int .i64 l.length), (8, .int .i64 (i : Nat))] ∧ Hx = H) l.length ?_ ?_
  · refine ⟨_, _, _, ⟨0, by omega, rfl, rfl, rfl⟩, Abs.by0 hbel ?_⟩
    exact absWf @hmv
  · rintro k F Hx ⟨i, hik, ht, rfl, rfl⟩ J hJ
    by_cases hi : i < l.length
    · have hii : (i : Int) < (l.length : Int) := by omega
      have q1 := prs_load hi
      have hg := pr_eq hi
      simp -implicitDefEqProofs (disch := omega) only [hii, hb, q1, prs_len, prs_one, simprocAttr, amset, tyset, Function.comp_apply, one1, lenV, calleeOf, lateOk, belowV, aop, AV.ofValue, AV.ofCell, AV.cells, AV.flat, AV.one, arep, aBin, aAppend, aConv]
      iterate 2 refine And.intro (by omega) ?_
      refine call_v hok (hf i hi) ?_
      have hst := any_step (p := p) hi
      rw [ht, Bool.false_or, ← hg] at hst
      cases h1 : p (g1 l i, g2 l i)
      · rw [h1] at hst
        simp -implicitDefEqProofs (disch := omega) only [h1, simprocAttr, amset, tyset, Function.comp_apply, one1, lenV, calleeOf, lateOk, belowV, aop, AV.ofValue, AV.ofCell, AV.cells, AV.flat, AV.one, arep, aBin, aAppend, aConv]
        refine hJ _ _ ⟨k - 1, by omega, _, _, _, ⟨i + 1, by omega, hst, rfl, rfl⟩, Abs.by0 hbel ?_⟩
        exact absWf @hmv
      · simp -implicitDefEqProofs (disch := omega) only [h1, simprocAttr, amset, tyset, Function.comp_apply, one1, lenV, calleeOf, lateOk, belowV, aop, AV.ofValue, AV.ofCell, AV.cells, AV.flat, AV.one, arep, aBin, aAppend, aConv]
        exact hQ _ _ (end_plain0 (.inl rfl) hbel (x := .int .i64 (i : Nat)) (resT Tryz.results216) rfl ⟨by rw [idxI_at hi ht (by rw [← hg]; exact h1)], rfl⟩)
    · have hnn : ¬ ((i : Int) < (l.length : Int)) := by omega
      simp -implicitDefEqProofs (disch := omega) only [hnn, simprocAttr, amset, tyset, Function.comp_apply, one1, lenV, calleeOf, lateOk, belowV, aop, AV.ofValue, AV.ofCell, AV.cells, AV.flat, AV.one, arep, aBin, aAppend, aConv]
      rw [List.take_of_length_le (by omega)] at ht
      exact hQ _ _ (end_plain0 (.inl rfl) hbel (x := .int .i64 (-1)) (resT Tryz.results216) rfl ⟨by rw [idxI_none ht], rfl⟩)
theorem has_m (H : AHeap) (s : AV) (l : List (Int × Int)) (hs : Sl H 2 s l.length (prs l)) (hl : l.length ≤ 1000000000) (g : FuncId) (caps : List AV) (hok : okFn Tryz.prog g = true) (hc : AV.bels H.length caps = true) (p : (Int × Int) → Bool) (hf : ∀ j, j < l.length → ACalls Tryz.prog g (.agg [.int .i64 (g1 l j), .int .i64 (g2 l j)] :: caps) H (fun v H' => v = .bool (p (g1 l j, g2 l j)) ∧ H' = H)) :
    ACalls Tryz.prog 145 [s, .fn g caps] H (fun v H' => v = .bool (l.any p) ∧ H' = H) := by
  have key := idx_m H s l hs hl g caps hok hc p hf
  obtain ⟨b, own, cap, rfl, hb⟩ := hs
  have hbl := getElem?_lt hb
  (refine ACalls_run try_mixed Tryz.func145 true _ rfl (Nat.le_of_ble_eq_true (by kernel_rfl)) (by kernel_rfl) ?_; intro hbel Q hQ hQ' c hc; unfold Tryz.f145 at hc; simp only [Option.some.injEq] at hc; subst hc; clear hQ')
  simp -implicitDefEqProofs (disch := omega) only [simprocAttr, amset, tyset, Function.comp_apply, one1, lenV, calleeOf, lateOk, belowV, aop, AV.ofValue, AV.ofCell, AV.cells, AV.flat, AV.one, arep, aBin, aAppend, aConv]
  refine call_v (by kernel_rfl) key ?_
  simp -implicitDefEqProofs (disch := omega) only [simprocAttr, amset, tyset, Function.comp_apply, one1, lenV, calleeOf, lateOk, belowV, aop, AV.ofValue, AV.ofCell, AV.cells, AV.flat, AV.one, arep, aBin, aAppend, aConv]
  exact hQ _ _ (end_plain0 (.inl rfl) hbel (x := .bool (decide (0 ≤ idxI p l))) (resT Tryz.results145) rfl ⟨by rw [idxI_any], rfl⟩)
open Go.RowKit
section
variable (H : AHeap)
theorem psize_c (x : Int) : ACalls Tryz.prog 179 [.int .i64 x] H (fun v H' => v = .bool (decide (1 ≤ x) && decide (x ≤ 64)) ∧ H' = H) := by
  (refine ACalls_run try_mixed Tryz.func179 true _ rfl (Nat.le_of_ble_eq_true (by kernel_rfl)) (by kernel_rfl) ?_; intro hbel Q hQ hQ' c hc; unfold Tryz.f179 at hc; simp only [Option.some.injEq] at hc; subst hc; clear hQ')
  by_cases h1 : 1 ≤ x
  · simp -implicitDefEqProofs (disch := omega) only [h1, simprocAttr, amset, tyset, Function.comp_apply, one1, lenV, calleeOf, lateOk, belowV, aop, AV.ofValue, AV.ofCell, AV.cells, AV.flat, AV.one, arep, aBin, aAppend, aConv]
    exact hQ _ _ (end_plain0 (.inl rfl) hbel (x := .bool (decide (x ≤ 64))) (resT Tryz.results179) rfl ⟨by simp only [h1, decide_true, Bool.true_and], rfl⟩)
  · simp -implicitDefEqProofs (disch := omega) only [h1, simprocAttr, amset, tyset, Function.comp_apply, one1, lenV, calleeOf, lateOk, belowV, aop, AV.ofValue, AV.ofCell, AV.cells, AV.flat, AV.one, arep, aBin, aAppend, aConv]
    exact hQ _ _ (end_plain0 (.inl rfl) hbel (x := .bool false) (resT Tryz.results179) rfl ⟨by simp only [h1, decide_false, Bool.false_and], rfl⟩)
set_option maxRecDepth 100000 in
theorem max_c (xs : List Int) (b : Nat) (own : Bool) (cap : Option Nat) (hb : H[b]? = some (.cells own 1 (ints .u8 xs))) (h0 : 0 < xs.length) (hn : xs.length ≤ 1000000) : ACalls Tryz.prog 180 [.sl (some (b, 0)) xs.length cap] H (fun v H' => ∃ m, v = .int .u8 m ∧ m ∈ xs ∧ (∀ x ∈ xs, x ≤ m) ∧ H' = H) := by
  have hbl := getElem?_lt hb
  have hg0 := ints_get (k := .u8) (xs := xs) (j := 0) h0
  (refine ACalls_run try_mixed Tryz.func180 true _ rfl (Nat.le_of_ble_eq_true (by kernel_rfl)) (by kernel_rfl) ?_; intro hbel Q hQ hQ' c hc; unfold Tryz.f180 at hc; simp only [Option.some.injEq] at hc; subst hc; clear hQ')
  have h1 : ¬ (xs.length : Int) < 1 := by omega
  simp -implicitDefEqProofs (disch := omega) only [h1, hb, hg0, simprocAttr, amset, tyset, Function.comp_apply, one1, lenV, calleeOf, lateOk, belowV, aop, AV.ofValue, AV.ofCell, AV.cells, AV.flat, AV.one, arep, aBin, aAppend, aConv]
  repeat refine And.intro (by omega) ?_
  refine go_loop try_mixed (by kernel_rfl) (fun k F Hx => ∃ (i : Nat) (m : Int), i + k = xs.length ∧ 1 ≤ i ∧ m ∈ xs ∧ (∀ j, j < i → gi xs j ≤ m) ∧ F = [(0, .sl (some (b, 0)) xs.length none), (3, .int .u8 m), (4, .int .i64 (i : Nat))] ∧ Hx = H) (xs.length - 1) ?_ ?_
  · refine ⟨_, _, _, ⟨1, gi xs 0, by omega, by omega, gi_mem h0, fun j hj => by obtain rfl : j = 0 := by omega
                                                                                exact Int.le_refl _, rfl, rfl⟩, Abs.by0 hbel ?_⟩
    exact absT
  · rintro k F Hx ⟨i, m, hik, hi1, hm, hle, rfl, rfl⟩ J hJ
    by_cases hi : i < xs.length
    · have hii : (i : Int) < (xs.length : Int) := by omega
      have hg := ints_get (k := .u8) (xs := xs) (j := i) hi
      simp -implicitDefEqProofs (disch := omega) only [hii, hb, hg, simprocAttr, amset, tyset, Function.comp_apply, one1, lenV, calleeOf, lateOk, belowV, aop, AV.ofValue, AV.ofCell, AV.cells, AV.flat, AV.one, arep, aBin, aAppend, aConv]
      repeat refine And.intro (by omega) ?_
      refine hJ _ _ ⟨k - 1, by omega, _, _, _, ⟨i + 1, if m < gi xs i then gi xs i else m, by omega, by omega, by split; exact gi_mem hi; exact hm, fun j hj => ?_, rfl, rfl⟩, Abs.by0 hbel ?_⟩
      · by_cases hji : j = i
        · subst hji; split <;> omega
        · have := hle j (by omega); split <;> omega
      · exact absT
    · have hnn : ¬ ((i : Int) < (xs.length : Int)) := by omega
      simp -implicitDefEqProofs (disch := omega) only [hnn, simprocAttr, amset, tyset, Function.comp_apply, one1, lenV, calleeOf, lateOk, belowV, aop, AV.ofValue, AV.ofCell, AV.cells, AV.flat, AV.one, arep, aBin, aAppend, aConv]
      exact hQ _ _ (end_plain0 (.inl rfl) hbel (x := .int .u8 m) (resT Tryz.results180) rfl ⟨m, rfl, hm, fun x hx => by
        obtain ⟨j, hj, rfl⟩ := List.getElem_of_mem hx
        rw [← gi_lt hj]; exact hle j (by omega), rfl⟩)
theorem vldB_neg {W Hh : Int} {xs : List Int} (h : ¬ (1 ≤ W ∧ W ≤ 64 ∧ 1 ≤ Hh ∧ Hh ≤ 64 ∧ (xs.length : Int) = W * Hh)) : vldB W Hh xs = false := vld_false.2 fun v => h ⟨v.w0, v.w1, v.h0, v.h1, v.len⟩
set_option maxRecDepth 100000 in
theorem valid_a (W Hh : Int) (s : AV) (xs : List Int) (hs : IsI H .u8 s xs) : ACalls Tryz.prog 104 [.agg [.int .i64 W, .int .i64 Hh, s]] H (fun v H' => v = .bool (vldB W Hh xs) ∧ H' = H) := by
  have hs1 : ∃ a c, s = .sl a xs.length c := by
    rcases hs with ⟨rfl, rfl⟩ | ⟨b, own, cap, rfl, hb⟩
    · exact ⟨_, _, rfl⟩
    · exact ⟨_, _, rfl⟩
  obtain ⟨a1, c1, rfl⟩ := hs1
  (refine ACalls_run try_mixed Tryz.func104 true _ rfl (Nat.le_of_ble_eq_true (by kernel_rfl)) (by kernel_rfl) ?_; intro hbel Q hQ hQ' c hc; unfold Tryz.f104 at hc; simp only [Option.some.injEq] at hc; subst hc; clear hQ')
  simp -implicitDefEqProofs (disch := omega) only [simprocAttr, amset, tyset, Function.comp_apply, one1, lenV, calleeOf, lateOk, belowV, aop, AV.ofValue, AV.ofCell, AV.cells, AV.flat, AV.one, arep, aBin, aAppend, aConv]
  refine call_v (by kernel_rfl) (psize_c _ _) ?_
  cases h1 : (decide (1 ≤ W) && decide (W ≤ 64))
  · simp only [Bool.and_eq_false_iff, decide_eq_false_iff_not] at h1
    simp -implicitDefEqProofs (disch := omega) only [simprocAttr, amset, tyset, Function.comp_apply, one1, lenV, calleeOf, lateOk, belowV, aop, AV.ofValue, AV.ofCell, AV.cells, AV.flat, AV.one, arep, aBin, aAppend, aConv]
    exact hQ _ _ (end_plain (.inl rfl) hbel (x := .bool false) (resT Tryz.results104) rfl ⟨by rw [vldB_neg (by omega)], rfl⟩)
  simp only [Bool.and_eq_true, decide_eq_true_eq] at h1
  simp -implicitDefEqProofs (disch := omega) only [simprocAttr, amset, tyset, Function.comp_apply, one1, lenV, calleeOf, lateOk, belowV, aop, AV.ofValue, AV.ofCell, AV.cells, AV.flat, AV.one, arep, aBin, aAppend, aConv]
  refine call_v (by kernel_rfl) (psize_c _ _) ?_
  cases h2 : (decide (1 ≤ Hh) && decide (Hh ≤ 64))
  · simp only [Bool.and_eq_false_iff, decide_eq_false_iff_not] at h2
    simp -implicitDefEqProofs (disch := omega) only [simprocAttr, amset, tyset, Function.comp_apply, one1, lenV, calleeOf, lateOk, belowV, aop, AV.ofValue, AV.ofCell, AV.cells, AV.flat, AV.one, arep, aBin, aAppend, aConv]
    exact hQ _ _ (end_plain (.inl rfl) hbel (x := .bool false) (resT Tryz.results104) rfl ⟨by rw [vldB_neg (by omega)], rfl⟩)
  simp only [Bool.and_eq_true, decide_eq_true_eq] at h2
  have hm := mul_le_64 (a := W) (b := Hh) (by omega) (by omega) (by omega) (by omega)
  have hm1 := Int.mul_le_mul (a := 1) (b := 1) (c := W) (d := Hh) h1.1 h2.1 (by omega) (by omega)
  by_cases h3 : (xs.length : Int) = W * Hh
  · have h3' : ((xs.length : Int) != W * Hh) = false := by simp [h3]
    have h4 : ((xs.length : Int) == 0) = false := beq_eq_false_iff_ne.2 (by omega)
    obtain ⟨b, own, cap, e1, hb⟩ := hs.resolve_left (fun h => by rw [h.1] at h3; simp at h3; omega)
    injection e1 with e1 _ e1'; subst e1 e1'
    have hb0 := fun l => get_app (l := l) hb
    have hbl := getElem?_lt hb
    simp -implicitDefEqProofs (disch := omega) only [h3', h4, simprocAttr, amset, tyset, Function.comp_apply, one1, lenV, calleeOf, lateOk, belowV, aop, AV.ofValue, AV.ofCell, AV.cells, AV.flat, AV.one, arep, aBin, aAppend, aConv]
    refine call_of (by kernel_rfl) (max_c _ xs b own c1 (hb0 _) (by omega) (by omega)) ?_
    rintro x H' ⟨m, rfl, hm, hle, rfl⟩
    simp -implicitDefEqProofs (disch := omega) only [simprocAttr, amset, tyset, Function.comp_apply, one1, lenV, calleeOf, lateOk, belowV, aop, AV.ofValue, AV.ofCell, AV.cells, AV.flat, AV.one, arep, aBin, aAppend, aConv]
    exact hQ _ _ (end_plain (.inl rfl) hbel (x := .bool (decide (m ≤ 2))) (resT Tryz.results104) rfl ⟨by
      congr 1
      rw [Bool.eq_iff_iff, vld_iff, decide_eq_true_eq]
      exact ⟨fun h => ⟨h1.1, h1.2, h2.1, h2.2, h3, fun v hv => Int.le_trans (hle v hv) h⟩, fun h => h.le m hm⟩, rfl⟩)
  · have h3' : ((xs.length : Int) != W * Hh) = true := by simp [h3]
    simp -implicitDefEqProofs (disch := omega) only [h3', simprocAttr, amset, tyset, Function.comp_apply, one1, lenV, calleeOf, lateOk, belowV, aop, AV.ofValue, AV.ofCell, AV.cells, AV.flat, AV.one, arep, aBin, aAppend, aConv]
    exact hQ _ _ (end_plain (.inl rfl) hbel (x := .bool false) (resT Tryz.results104) rfl ⟨by rw [vldB_neg (by omega)], rfl⟩)
set_option maxRecDepth 100000 in
theorem rplan_a (W Hh : Int) (s : AV) (xs : List Int) (hs : IsI H .u8 s xs) : ACalls Tryz.prog 36 [.agg [.int .i64 W, .int .i64 Hh, s]] H (fun v H' => v = .bool (vldB W Hh xs) ∧ H' = H) := by
  have hs1 : ∃ a c, s = .sl a xs.length c := by
    rcases hs with ⟨rfl, rfl⟩ | ⟨b, own, cap, rfl, hb⟩
    · exact ⟨_, _, rfl⟩
    · exact ⟨_, _, rfl⟩
  obtain ⟨a1, c1, rfl⟩ := hs1
  (refine ACalls_run try_mixed Tryz.func36 true _ rfl (Nat.le_of_ble_eq_true (by kernel_rfl)) (by kernel_rfl) ?_; intro hbel Q hQ hQ' c hc; unfold Tryz.f36 at hc; simp only [Option.some.injEq] at hc; subst hc; clear hQ')
  by_cases h1 : W < 1
  · simp -implicitDefEqProofs (disch := omega) only [h1, simprocAttr, amset, tyset, Function.comp_apply, one1, lenV, calleeOf, lateOk, belowV, aop, AV.ofValue, AV.ofCell, AV.cells, AV.flat, AV.one, arep, aBin, aAppend, aConv]
    exact hQ _ _ (end_plain (.inl rfl) hbel (x := .bool false) (resT Tryz.results36) rfl ⟨by rw [vldB_neg (by omega)], rfl⟩)
  by_cases h2 : 64 < W
  · simp -implicitDefEqProofs (disch := omega) only [h1, h2, simprocAttr, amset, tyset, Function.comp_apply, one1, lenV, calleeOf, lateOk, belowV, aop, AV.ofValue, AV.ofCell, AV.cells, AV.flat, AV.one, arep, aBin, aAppend, aConv]
    exact hQ _ _ (end_plain (.inl rfl) hbel (x := .bool false) (resT Tryz.results36) rfl ⟨by rw [vldB_neg (by omega)], rfl⟩)
  by_cases h3 : Hh < 1
  · simp -implicitDefEqProofs (disch := omega) only [h1, h2, h3, simprocAttr, amset, tyset, Function.comp_apply, one1, lenV, calleeOf, lateOk, belowV, aop, AV.ofValue, AV.ofCell, AV.cells, AV.flat, AV.one, arep, aBin, aAppend, aConv]
    exact hQ _ _ (end_plain (.inl rfl) hbel (x := .bool false) (resT Tryz.results36) rfl ⟨by rw [vldB_neg (by omega)], rfl⟩)
  by_cases h4 : 64 < Hh
  · simp -implicitDefEqProofs (disch := omega) only [h1, h2, h3, h4, simprocAttr, amset, tyset, Function.comp_apply, one1, lenV, calleeOf, lateOk, belowV, aop, AV.ofValue, AV.ofCell, AV.cells, AV.flat, AV.one, arep, aBin, aAppend, aConv]
    exact hQ _ _ (end_plain (.inl rfl) hbel (x := .bool false) (resT Tryz.results36) rfl ⟨by rw [vldB_neg (by omega)], rfl⟩)
  have hm := mul_le_64 (a := W) (b := Hh) (by omega) (by omega) (by omega) (by omega)
  have hm1 := Int.mul_le_mul (a := 1) (b := 1) (c := W) (d := Hh) (by omega) (by omega) (by omega) (by omega)
  by_cases h5 : (xs.length : Int) = W * Hh
  · have h5' : ((xs.length : Int) != W * Hh) = false := by simp [h5]
    obtain ⟨b, own, cap, e1, hb⟩ := hs.resolve_left (fun h => by rw [h.1] at h5; simp at h5; omega)
    injection e1 with e1 _ e1'; subst e1 e1'
    have hb0 := fun l => get_app (l := l) hb
    have hbl := getElem?_lt hb
    simp -implicitDefEqProofs (disch := omega) only [h1, h2, h3, h4, h5', simprocAttr, amset, tyset, Function.comp_apply, one1, lenV, calleeOf, lateOk, belowV, aop, AV.ofValue, AV.ofCell, AV.cells, AV.flat, AV.one, arep, aBin, aAppend, aConv]
    refine go_loop try_mixed (by kernel_rfl) (fun k F Hx => ∃ (i : Nat), i + k = xs.length ∧ (∀ j, j < i → gi xs j ≤ 2) ∧ F = [(1, .ptr (some (H.length, 0))), (3, .int .i64 (i : Nat))] ∧ Hx = H ++ [.cells true 0 [.int .i64 W, .int .i64 Hh, .sl (some (b, 0)) xs.length c1]]) xs.length ?_ ?_
    · refine ⟨_, _, _, ⟨0, by omega, fun j hj => absurd hj (Nat.not_lt_zero j), rfl, rfl⟩, Abs.by hbel [0] (by decide) ?_⟩
      exact absT
    · rintro k F Hx ⟨i, hik, hle, rfl, rfl⟩ J hJ
      by_cases hi : i < xs.length
      · have hii : (i : Int) < (xs.length : Int) := by omega
        have hg := ints_get (k := .u8) (xs := xs) (j := i) hi
        by_cases h6 : 2 < gi xs i
        · simp -implicitDefEqProofs (disch := omega) only [hii, hb0, hg, h6, simprocAttr, amset, tyset, Function.comp_apply, one1, lenV, calleeOf, lateOk, belowV, aop, AV.ofValue, AV.ofCell, AV.cells, AV.flat, AV.one, arep, aBin, aAppend, aConv]
          repeat refine And.intro (by omega) ?_
          exact hQ _ _ (end_plain (.inl rfl) hbel (x := .bool false) (resT Tryz.results36) rfl ⟨by rw [vld_false.2 fun v => absurd (v.le _ (gi_mem hi)) (by omega)], rfl⟩)
        · simp -implicitDefEqProofs (disch := omega) only [hii, hb0, hg, h6, simprocAttr, amset, tyset, Function.comp_apply, one1, lenV, calleeOf, lateOk, belowV, aop, AV.ofValue, AV.ofCell, AV.cells, AV.flat, AV.one, arep, aBin, aAppend, aConv]
          repeat refine And.intro (by omega) ?_
          refine hJ _ _ ⟨k - 1, by omega, _, _, _, ⟨i + 1, by omega, fun j hj => ?_, rfl, rfl⟩, Abs.by hbel [0] (by decide) ?_⟩
          · by_cases hji : j = i
            · subst hji; omega
            · exact hle j (by omega)
          · exact absT
      · have hnn : ¬ ((i : Int) < (xs.length : Int)) := by omega
        simp -implicitDefEqProofs (disch := omega) only [hnn, simprocAttr, amset, tyset, Function.comp_apply, one1, lenV, calleeOf, lateOk, belowV, aop, AV.ofValue, AV.ofCell, AV.cells, AV.flat, AV.one, arep, aBin, aAppend, aConv]
        exact hQ _ _ (end_plain (.inl rfl) hbel (x := .bool true) (resT Tryz.results36) rfl ⟨by rw [vld_iff.2 ⟨by omega, by omega, by omega, by omega, h5, fun x hx => by
          obtain ⟨j, hj, rfl⟩ := List.getElem_of_mem hx
          rw [← gi_lt hj]; exact hle j (by omega)⟩], rfl⟩)
  · have h5' : ((xs.length : Int) != W * Hh) = true := by simp [h5]
    simp -implicitDefEqProofs (disch := omega) only [h1, h2, h3, h4, h5', simprocAttr, amset, tyset, Function.comp_apply, one1, lenV, calleeOf, lateOk, belowV, aop, AV.ofValue, AV.ofCell, AV.cells, AV.flat, AV.one, arep, aBin, aAppend, aConv]
    exact hQ _ _ (end_plain (.inl rfl) hbel (x := .bool false) (resT Tryz.results36) rfl ⟨by rw [vldB_neg (by omega)], rfl⟩)
end
set_option linter.unusedSimpArgs false
set_option linter.unusedVariables false
open Go.RowKit
section
variable {H : AHeap} {W Hh x y : Int} {s : AV} {xs : List Int} {g : Nat} {own : Bool} {cap : Option Nat} {n : Nat}
end
set_option linter.unusedSimpArgs false
set_option linter.unusedVariables false
open Go.RowKit
set_option maxHeartbeats 4000000
set_option maxRecDepth 100000
theorem pinside_c (H : AHeap) (W : Int) (Hh : Int) (pp : AV) (xs : List Int) (x : Int) (y : Int) (hpp : Sl H 1 pp xs.length (ints .u8 xs)) : ACalls Tryz.prog 166 [.agg [.int .i64 W, .int .i64 Hh, pp], .agg [.int .i64 x, .int .i64 y]] H (fun v H' => v = .bool (inB W Hh x y) ∧ H' = H) := by
  obtain ⟨bpp, opp, cpp, rfl, hbpp⟩ := hpp
  have hblpp := getElem?_lt hbpp
  have hb0pp := fun l => get_app (l := l) hbpp
  refine AcT true Tryz.func166 ?_; intro hbel Q hQ
  have g'1 := (jn @hbpp @hb0pp)
  refine runTf g'1 ?_
  refine gd_split (fun h1 => ?_) (fun h1 => ?_)
  · have h1d := bsT h1
    have g'2 := (jn @h1 (jn @h1d g'1))
    refine runTf g'2 ?_
    refine gd_split (fun h2 => ?_) (fun h2 => ?_)
    · have h2d := bsT h2
      have g'3 := (jn @h2 (jn @h2d g'2))
      refine runTf g'3 ?_
      refine gd_split (fun h3 => ?_) (fun h3 => ?_)
      · have h3d := bsT h3
        have g'4 := (jn @h3 (jn @h3d g'3))
        refine runTf g'4 ?_
        exact hQ _ _ (end_plain (.inl rfl) hbel (x := .bool (decide (y < Hh))) (resT Tryz.results166) rfl ⟨by first | (simp [inB, h1d, h2d, h3d]; done) | (simp [inB, h1d, h2d, h3d]; omega), rfl⟩)
      · have h3d := bsT h3
        have g'5 := (jn @h3 (jn @h3d g'3))
        refine runTf g'5 ?_
        exact hQ _ _ (end_plain (.inl rfl) hbel (x := .bool false) (resT Tryz.results166) rfl ⟨by first | (simp [inB, h1d, h2d, h3d]; done) | (simp [inB, h1d, h2d, h3d]; omega), rfl⟩)
    · have h2d := bsT h2
      have g'6 := (jn @h2 (jn @h2d g'2))
      refine runTf g'6 ?_
      exact hQ _ _ (end_plain (.inl rfl) hbel (x := .bool false) (resT Tryz.results166) rfl ⟨by first | (simp [inB, h1d, h2d]; done) | (simp [inB, h1d, h2d]; omega), rfl⟩)
  · have h1d := bsT h1
    have g'7 := (jn @h1 (jn @h1d g'1))
    refine runTf g'7 ?_
    exact hQ _ _ (end_plain (.inl rfl) hbel (x := .bool false) (resT Tryz.results166) rfl ⟨by first | (simp [inB, h1d]; done) | (simp [inB, h1d]; omega), rfl⟩)
theorem pat_c (H : AHeap) (W : Int) (Hh : Int) (pp : AV) (xs : List Int) (x : Int) (y : Int) (hpp : Sl H 1 pp xs.length (ints .u8 xs)) (hV : vldB W Hh xs = true) : ACalls Tryz.prog 82 [.agg [.int .i64 W, .int .i64 Hh, pp], .agg [.int .i64 x, .int .i64 y]] H (fun v H' => v = .int .u8 (atI W Hh xs x y) ∧ H' = H) := by
  obtain ⟨bpp, opp, cpp, rfl, hbpp⟩ := hpp
  have hblpp := getElem?_lt hbpp
  have hb0pp := fun l => get_app (l := l) hbpp
  have hVl := vld_iff.1 hV
  have hll := hVl.len
  have hpp2 := hVl.pos
  refine AcT true Tryz.func82 ?_; intro hbel Q hQ
  have g'8 := (jn @hbpp (jn @hb0pp @hV))
  refine runTf g'8 ?_
  refine call_v (by kernel_rfl) (valid_a _ W Hh _ xs (.inr ⟨_, _, _, rfl, by first | exact hb0pp _ | exact hbpp⟩)) ?_
  refine runTf g'8 ?_
  refine call_v (by kernel_rfl) (pinside_c _ W Hh _ xs x y ⟨_, _, _, rfl, by first | exact hb0pp _ | exact hbpp⟩) ?_
  refine runTf g'8 ?_
  refine cond_split (fun h1 => ?_) (fun h1 => ?_)
  · have h1d := bsT h1
    have g'9 := (jn @h1 (jn @h1d g'8))
    refine runTf g'9 ?_
    exact hQ _ _ (end_plain (.inl rfl) hbel (x := .int .u8 2) (resT Tryz.results82) rfl ⟨by simp [atI, h1d], rfl⟩)
  · have h1d := bsT h1
    have hin := h1d
    obtain ⟨i1, i2, i3, i4, i5, -⟩ := hVl.idx hin
    have q2 := ints_get (k := .u8) (xs := xs) (j := ((y * W) + x).toNat) (by omega)
    have g'10 := (jn @h1 (jn @h1d (jn @q2 g'8)))
    refine runTf g'10 ?_
    exact hQ _ _ (end_plain (.inl rfl) hbel (x := .int .u8 (gi xs (((y * W) + x).toNat))) (resT Tryz.results82) rfl ⟨by simp [atI, h1d], rfl⟩)
open Go.RowKit
theorem kwithin_c (H : AHeap) (n : Int) (lo : Int) (hi : Int) : ACalls Tryz.prog 83 [.int .i64 n, .int .i64 lo, .int .i64 hi] H (fun v H' => v = .bool (btw n lo hi) ∧ H' = H) := by
  refine AcT true Tryz.func83 ?_; intro hbel Q hQ
  refine runT ?_
  refine gd_split (fun h1 => ?_) (fun h1 => ?_)
  · have h1d := bsT h1
    have g'1 := (jn @h1 @h1d)
    refine runTf g'1 ?_
    exact hQ _ _ (end_plain0 (.inl rfl) hbel (x := .bool (decide (n ≤ hi))) (resT Tryz.results83) rfl ⟨by simp [btw, h1d], rfl⟩)
  · have h1d := bsT h1
    have g'2 := (jn @h1 @h1d)
    refine runTf g'2 ?_
    exact hQ _ _ (end_plain0 (.inl rfl) hbel (x := .bool false) (resT Tryz.results83) rfl ⟨by simp [btw, h1d], rfl⟩)
theorem kvb_c (H : AHeap) (m : Int) (r : Int) : ACalls Tryz.prog 144 [.agg [.int .i64 m, .int .i64 r]] H (fun v H' => v = .bool (beaB m r) ∧ H' = H) := by
  refine AcT true Tryz.func144 ?_; intro hbel Q hQ
  refine runT ?_
  refine call_v (by kernel_rfl) (kwithin_c _ m 0 255) ?_
  refine runT ?_
  refine gd_split (fun h1 => ?_) (fun h1 => ?_)
  · have h1d := bsT h1
    have g'3 := (jn @h1 @h1d)
    refine runTf g'3 ?_
    refine call_v (by kernel_rfl) (kwithin_c _ r (-1) 1024) ?_
    refine runTf g'3 ?_
    exact hQ _ _ (end_plain (.inl rfl) hbel (x := .bool (btw r (-1) 1024)) (resT Tryz.results144) rfl ⟨by simp [beaB, h1d], rfl⟩)
  · have h1d := bsT h1
    have g'4 := (jn @h1 @h1d)
    refine runTf g'4 ?_
    exact hQ _ _ (end_plain (.inl rfl) hbel (x := .bool false) (resT Tryz.results144) rfl ⟨by simp [beaB, h1d], rfl⟩)
theorem kright1_c (H : AHeap) (m : Int) (r : Int) : ACalls Tryz.prog 143 [.agg [.int .i64 m, .int .i64 r]] H (fun v H' => v = .bool (!(beaE (m, r))) ∧ H' = H) := by
  refine AcT true Tryz.func143 ?_; intro hbel Q hQ
  refine runT ?_
  refine call_v (by kernel_rfl) (kvb_c _ m r) ?_
  refine runT ?_
  exact hQ _ _ (end_plain (.inl rfl) hbel (x := .bool (!(beaB m r))) (resT Tryz.results143) rfl ⟨rfl, rfl⟩)
theorem kset1_c (H : AHeap) (x0 : Int) (y0 : Int) (x1 : Int) (y1 : Int) (f : Int) (c : Int) : ACalls Tryz.prog 152 [.agg [.int .i64 x0, .int .i64 y0, .int .i64 x1, .int .i64 y1, .int .i64 f, .int .i64 c]] H (fun v H' => v = .bool (!(bxB x0 y0 x1 y1 f c)) ∧ H' = H) := by
  refine AcT true Tryz.func152 ?_; intro hbel Q hQ
  refine runT ?_
  refine call_v (by kernel_rfl) (bxv_c _ x0 y0 x1 y1 f c) ?_
  refine runT ?_
  exact hQ _ _ (end_plain (.inl rfl) hbel (x := .bool (!(bxB x0 y0 x1 y1 f c))) (resT Tryz.results152) rfl ⟨rfl, rfl⟩)
open Go.RowKit
theorem kset_c (H : AHeap) (s : AV) (l : List T6) (hs : Sl H 6 s l.length (r6 l)) (hl : l.length ≤ 1000000000) : ACalls Tryz.prog 72 [s] H (fun v H' => v = .bool (setB l) ∧ H' = H) := by
  obtain ⟨bs, os, cs, rfl, hbs⟩ := hs
  have hbls := getElem?_lt hbs
  have hb0s := fun l => get_app (l := l) hbs
  refine AcT true Tryz.func72 ?_; intro hbel Q hQ
  have g'1 := (jn @hbs @hb0s)
  refine runTf g'1 ?_
  refine gd_split (fun h1 => ?_) (fun h1 => ?_)
  · have h1d := bsT h1
    have g'2 := (jn @h1 (jn @h1d g'1))
    refine runTf g'2 ?_
    refine call_v (by kernel_rfl) (has_box _ _ l ⟨_, _, _, rfl, by first | exact hb0s _ | exact hbs⟩ (by omega) _ [] (by kernel_rfl) rfl (fun b => !boxB b) (fun j hj => kset1_c _ _ _ _ _ _ _)) ?_
    refine runTf g'2 ?_
    exact hQ _ _ (end_plain0 (.inl rfl) hbel (x := .bool (!(l.any (fun b => !boxB b)))) (resT Tryz.results72) rfl ⟨by first | (simp [setB, h1d]; done) | (unfold setB; simp only [h1]; rfl), rfl⟩)
  · have h1d := bsT h1
    have g'3 := (jn @h1 (jn @h1d g'1))
    refine runTf g'3 ?_
    exact hQ _ _ (end_plain0 (.inl rfl) hbel (x := .bool false) (resT Tryz.results72) rfl ⟨by first | (simp [setB, h1d]; done) | (unfold setB; simp only [h1]; rfl), rfl⟩)
theorem kpairs_c (H : AHeap) (s : AV) (l : List T6) (hs : Sl H 6 s l.length (r6 l)) (hS : setB l = true) : ACalls Tryz.prog 73 [s] H (fun v H' => v = .int .i64 (sumC l l.length) ∧ H' = H) := by
  obtain ⟨bs, os, cs, rfl, hbs⟩ := hs
  have hbls := getElem?_lt hbs
  have hb0s := fun l => get_app (l := l) hbs
  have hln := setB_len hS
  refine AcT true Tryz.func73 ?_; intro hbel Q hQ
  have g'4 := (jn @hbs @hb0s)
  refine runTf g'4 ?_
  refine go_loop try_mixed (by kernel_rfl) (fun k F Hx => ∃ i : Nat, i + k = l.length ∧ F = [(3, .int .i64 (sumC l i)), (6, .sl (some (bs, 0)) l.length cs), (7, .int .i64 ((l.length : Nat) : Int)), (8, .int .i64 ((i : Nat) : Int))] ∧ H = Hx) (l.length) ?_ ?_
  · refine ⟨_, _, _, ⟨0, by omega, rfl, rfl⟩, Abs.by0 hbel ?_⟩
    exact absWf @sumC.eq_1
  · rintro k0 F Hx ⟨i, hm0, rfl, rfl⟩ J0 hJ0
    refine runTf g'4 ?_
    refine cond_split (fun h1 => ?_) (fun h1 => ?_)
    · have h1d := bsT h1
      have hsb := sumC_bd hS i (by omega)
      have hgb := g66_bd hS (show i < l.length by omega)
      have q2 := r6_load (l := l) (j := i) (by omega)
      have g'5 := (jn @h1 (jn @h1d (jn @r6_len (jn @q2 g'4))))
      refine runTf g'5 ?_
      refine hJ0 _ _ ⟨k0 - 1, by omega, _, _, _, ⟨i + 1, by omega, rfl, rfl⟩, Abs.byN hbel ?_⟩
      exact absWf @sumC.eq_2
    · have h1d := bsT h1
      obtain rfl : i = l.length := by omega
      have g'6 := (jn @h1 (jn @h1d g'4))
      refine runTf g'6 ?_
      exact hQ _ _ (end_plain0 (.inl rfl) hbel (x := .int .i64 (sumC l l.length)) (resT Tryz.results73) rfl ⟨rfl, rfl⟩)
theorem kPairs_c (H : AHeap) (s : AV) (l : List T6) (hs : Sl H 6 s l.length (r6 l)) (hl : l.length ≤ 1000000000) : ACalls Tryz.prog 21 [s] H (fun v H' => v = .int .i64 (prsN l) ∧ H' = H) := by
  obtain ⟨bs, os, cs, rfl, hbs⟩ := hs
  have hbls := getElem?_lt hbs
  have hb0s := fun l => get_app (l := l) hbs
  refine AcT true Tryz.func21 ?_; intro hbel Q hQ
  have g'7 := (jn @hbs @hb0s)
  refine runTf g'7 ?_
  refine call_v (by kernel_rfl) (kset_c _ _ l ⟨_, _, _, rfl, by first | exact hb0s _ | exact hbs⟩ (by omega)) ?_
  refine runTf g'7 ?_
  refine cond_split (fun h1 => ?_) (fun h1 => ?_)
  · have h1d := bsT h1
    have g'8 := (jn @h1 (jn @h1d g'7))
    refine runTf g'8 ?_
    exact hQ _ _ (end_plain0 (.inl rfl) hbel (x := .int .i64 0) (resT Tryz.results21) rfl ⟨by first | (simp [prsN, h1d]; done) | (unfold prsN; simp only [h1]; rfl), rfl⟩)
  · have h1d := bsT h1
    have hS := h1d
    have g'9 := (jn @h1 (jn @h1d g'7))
    refine runTf g'9 ?_
    refine call_v (by kernel_rfl) (kpairs_c _ _ l ⟨_, _, _, rfl, by first | exact hb0s _ | exact hbs⟩ (by assumption)) ?_
    refine runTf g'9 ?_
    exact hQ _ _ (end_plain0 (.inl rfl) hbel (x := .int .i64 (sumC l l.length)) (resT Tryz.results21) rfl ⟨by first | (simp [prsN, h1d]; done) | (unfold prsN; simp only [h1]; rfl), rfl⟩)
theorem ktau1_c (H : AHeap) (x0 : Int) (y0 : Int) (x1 : Int) (y1 : Int) (f : Int) (c : Int) (hb : bxB x0 y0 x1 y1 f c = true) : ACalls Tryz.prog 164 [.agg [.int .i64 x0, .int .i64 y0, .int .i64 x1, .int .i64 y1, .int .i64 f, .int .i64 c]] H (fun v H' => v = .bool (wdeB (x0, y0, x1, y1, f, c)) ∧ H' = H) := by
  have hbb := bxB_iff.1 hb
  refine AcT true Tryz.func164 ?_; intro hbel Q hQ
  refine runT ?_
  refine gd_split (fun h1 => ?_) (fun h1 => ?_)
  · have h1d := bsT h1
    have g'10 := (jn @h1 @h1d)
    refine runTf g'10 ?_
    exact hQ _ _ (end_plain (.inl rfl) hbel (x := .bool (decide (64 < (y1 - y0)))) (resT Tryz.results164) rfl ⟨by simp [wdeB, h1d], rfl⟩)
  · have h1d := bsT h1
    have g'11 := (jn @h1 @h1d)
    refine runTf g'11 ?_
    exact hQ _ _ (end_plain (.inl rfl) hbel (x := .bool true) (resT Tryz.results164) rfl ⟨by simp [wdeB, h1d], rfl⟩)
open Go.RowKit
theorem ktaught_c (H : AHeap) (s : AV) (l : List T6) (hs : Sl H 6 s l.length (r6 l)) (hS : setB l = true) : ACalls Tryz.prog 79 [s] H (fun v H' => v = .bool (tauB l) ∧ H' = H) := by
  obtain ⟨bs, os, cs, rfl, hbs⟩ := hs
  have hbls := getElem?_lt hbs
  have hb0s := fun l => get_app (l := l) hbs
  have hln := setB_len hS
  refine AcT true Tryz.func79 ?_; intro hbel Q hQ
  have g'1 := (jn @hbs @hb0s)
  refine runTf g'1 ?_
  refine call_v (by kernel_rfl) (kpairs_c _ _ l ⟨_, _, _, rfl, by first | exact hb0s _ | exact hbs⟩ (by assumption)) ?_
  refine runTf g'1 ?_
  refine gd_split (fun h1 => ?_) (fun h1 => ?_)
  · have h1d := bsT h1
    have g'2 := (jn @h1 (jn @h1d g'1))
    refine runTf g'2 ?_
    refine call_v (by kernel_rfl) (has_box _ _ l ⟨_, _, _, rfl, by first | exact hb0s _ | exact hbs⟩ (by omega) _ [] (by kernel_rfl) rfl (wdeB) (fun j hj => ktau1_c _ _ _ _ _ _ _ ((setB_iff.1 hS).2 (g6 l j) (g6_mem hj)))) ?_
    refine runTf g'2 ?_
    exact hQ _ _ (end_plain0 (.inl rfl) hbel (x := .bool (!(l.any (wdeB)))) (resT Tryz.results79) rfl ⟨by first | (simp [tauB, h1d]; done) | (unfold tauB; simp only [h1]; rfl), rfl⟩)
  · have h1d := bsT h1
    have g'3 := (jn @h1 (jn @h1d g'1))
    refine runTf g'3 ?_
    exact hQ _ _ (end_plain0 (.inl rfl) hbel (x := .bool false) (resT Tryz.results79) rfl ⟨by first | (simp [tauB, h1d]; done) | (unfold tauB; simp only [h1]; rfl), rfl⟩)
theorem kright_c (H : AHeap) (W : Int) (Hh : Int) (pp : AV) (xs : List Int) (s : AV) (l : List T6) (q : AV) (sc : List (Int × Int)) (g : Int) (hpp : Sl H 1 pp xs.length (ints .u8 xs)) (hs : Sl H 6 s l.length (r6 l)) (hq : Sl H 2 q sc.length (prs sc)) (hl : l.length ≤ 1000000000) (hsc : sc.length ≤ 1000000000) : ACalls Tryz.prog 68 [.agg [.int .i64 W, .int .i64 Hh, pp], s, q, .int .i64 g] H (fun v H' => v = .bool (rgtA W Hh xs l sc g) ∧ H' = H) := by
  obtain ⟨bpp, opp, cpp, rfl, hbpp⟩ := hpp
  have hblpp := getElem?_lt hbpp
  have hb0pp := fun l => get_app (l := l) hbpp
  obtain ⟨bs, os, cs, rfl, hbs⟩ := hs
  have hbls := getElem?_lt hbs
  have hb0s := fun l => get_app (l := l) hbs
  obtain ⟨bq, oq, cq, rfl, hbq⟩ := hq
  have hblq := getElem?_lt hbq
  have hb0q := fun l => get_app (l := l) hbq
  refine AcT true Tryz.func68 ?_; intro hbel Q hQ
  have g'4 := (jn @hbpp (jn @hb0pp (jn @hbs (jn @hb0s (jn @hbq @hb0q)))))
  refine runTf g'4 ?_
  refine call_v (by kernel_rfl) (valid_a _ W Hh _ xs (.inr ⟨_, _, _, rfl, by first | exact hb0pp _ | exact hbpp⟩)) ?_
  refine runTf g'4 ?_
  refine gd_split (fun h1 => ?_) (fun h1 => ?_)
  · have h1d := bsT h1
    have g'5 := (jn @h1 (jn @h1d g'4))
    refine runTf g'5 ?_
    refine gd_split (fun h2 => ?_) (fun h2 => ?_)
    · have h2d := bsT h2
      have g'6 := (jn @h2 (jn @h2d g'5))
      refine runTf g'6 ?_
      refine call_v (by kernel_rfl) (kset_c _ _ l ⟨_, _, _, rfl, by first | exact hb0s _ | exact hbs⟩ (by omega)) ?_
      refine runTf g'6 ?_
      refine gd_split (fun h3 => ?_) (fun h3 => ?_)
      · have h3d := bsT h3
        have g'7 := (jn @h3 (jn @h3d g'6))
        refine runTf g'7 ?_
        refine gd_split (fun h4 => ?_) (fun h4 => ?_)
        · have h4d := bsT h4
          have g'8 := (jn @h4 (jn @h4d g'7))
          refine runTf g'8 ?_
          refine call_v (by kernel_rfl) (has_m _ _ sc ⟨_, _, _, rfl, by first | exact hb0q _ | exact hbq⟩ (by omega) _ [] (by kernel_rfl) rfl (fun e => !beaE e) (fun j hj => kright1_c _ _ _)) ?_
          refine runTf g'8 ?_
          refine gd_split (fun h5 => ?_) (fun h5 => ?_)
          · have h5d := bsT h5
            have g'9 := (jn @h5 (jn @h5d g'8))
            refine runTf g'9 ?_
            refine call_v (by kernel_rfl) (kwithin_c _ g 1 32) ?_
            refine runTf g'9 ?_
            exact hQ _ _ (end_plain (.inl rfl) hbel (x := .bool (btw g 1 32)) (resT Tryz.results68) rfl ⟨by first | (simp [rgtA, scnB, h1d, h2d, h3d, h4d, h5d]; done) | (unfold rgtA scnB; simp only [h1, h2, h3, h4, h5]; rfl), rfl⟩)
          · have h5d := bsT h5
            have g'10 := (jn @h5 (jn @h5d g'8))
            refine runTf g'10 ?_
            exact hQ _ _ (end_plain (.inl rfl) hbel (x := .bool false) (resT Tryz.results68) rfl ⟨by first | (simp [rgtA, scnB, h1d, h2d, h3d, h4d, h5d]; done) | (unfold rgtA scnB; simp only [h1, h2, h3, h4, h5]; rfl), rfl⟩)
        · have h4d := bsT h4
          have g'11 := (jn @h4 (jn @h4d g'7))
          refine runTf g'11 ?_
          exact hQ _ _ (end_plain (.inl rfl) hbel (x := .bool false) (resT Tryz.results68) rfl ⟨by first | (simp [rgtA, scnB, h1d, h2d, h3d, h4d]; done) | (unfold rgtA scnB; simp only [h1, h2, h3, h4]; rfl), rfl⟩)
      · have h3d := bsT h3
        have g'12 := (jn @h3 (jn @h3d g'6))
        refine runTf g'12 ?_
        exact hQ _ _ (end_plain (.inl rfl) hbel (x := .bool false) (resT Tryz.results68) rfl ⟨by first | (simp [rgtA, scnB, h1d, h2d, h3d]; done) | (unfold rgtA scnB; simp only [h1, h2, h3]; rfl), rfl⟩)
    · have h2d := bsT h2
      have g'13 := (jn @h2 (jn @h2d g'5))
      refine runTf g'13 ?_
      exact hQ _ _ (end_plain (.inl rfl) hbel (x := .bool false) (resT Tryz.results68) rfl ⟨by first | (simp [rgtA, scnB, h1d, h2d]; done) | (unfold rgtA scnB; simp only [h1, h2]; rfl), rfl⟩)
  · have h1d := bsT h1
    have g'14 := (jn @h1 (jn @h1d g'4))
    refine runTf g'14 ?_
    exact hQ _ _ (end_plain (.inl rfl) hbel (x := .bool false) (resT Tryz.results68) rfl ⟨by first | (simp [rgtA, scnB, h1d]; done) | (unfold rgtA scnB; simp only [h1]; rfl), rfl⟩)
open Go.RowKit
theorem hlistk_c (H : AHeap) (l : List T6) (i : Nat) (ha : arcB (g65 l i) (g66 l i) = true) : ACalls Tryz.prog 113 [.agg [.int .i64 (g65 l i), .int .i64 (g66 l i)]] H (fun v H' => v = .sl (some (H.length, 0)) (mkB (g6 l i)).length none ∧ H' = H ++ [.cells true 1 (ints .i64 (mkB (g6 l i)))]) := hlist_c H _ _ ha
theorem tracedf_c (H : AHeap) (l : List T6) (m far : Int) : ACalls Tryz.prog 217 [.agg [.int .i64 (g91 (dirA l m) 0), .int .i64 (g92 (dirA l m) 0)], .agg [.int .i64 (g97 (dirA l m) 0), .int .i64 (g98 (dirA l m) 0), .int .i64 (g99 (dirA l m) 0)], .int .i64 0, .int .i64 far] H (fun v H' => v = .tup [.sl (some (H.length, 0)) (fstL l m far).length (capG (fstL l m far).length), .int .i64 (trE (g91 (dirA l m) 0) (g92 (dirA l m) 0) (g97 (dirA l m) 0) (g98 (dirA l m) 0) (g99 (dirA l m) 0) 0 far)] ∧ H' = H ++ [.cells (ownG (fstL l m far).length) 2 (prs (fstL l m far))]) := traced_c H _ _ _ _ _ _ _
theorem g9_mem {l : List T9} {j : Nat} (h : j < l.length) : g9 l j ∈ l := by
  have := g9_eq h
  have e : (g91 l j, g92 l j, g93 l j, g94 l j, g95 l j, g96 l j, g97 l j, g98 l j, g99 l j) = g9 l j := rfl
  rw [e] at this; rw [this]; exact List.getElem_mem h
theorem fstL_len (l : List T6) (m far : Int) : (fstL l m far).length ≤ 7225 := trL_len _ _ _ _ _ _ _
theorem corners_c (H : AHeap) (x0 : Int) (y0 : Int) (x1 : Int) (y1 : Int) (f : Int) (c : Int) (ha : bxB x0 y0 x1 y1 f c = true) : ACalls Tryz.prog 218 [.agg [.int .i64 x0, .int .i64 y0, .int .i64 x1, .int .i64 y1, .int .i64 f, .int .i64 c]] H (fun v H' => v = .sl (some (H.length, 0)) 4 none ∧ H' = H ++ [.cells true 2 [.int .i64 x0, .int .i64 y0, .int .i64 x1, .int .i64 y0, .int .i64 x0, .int .i64 y1, .int .i64 x1, .int .i64 y1]]) := by
  refine AcT true Tryz.func218 ?_; intro hbel Q hQ
  have g'1 := @ha
  refine runTf g'1 ?_
  refine call_v (by kernel_rfl) (bxv_c _ x0 y0 x1 y1 f c) ?_
  refine runTf g'1 ?_
  refine hQ _ _ (end_byG (.inl rfl) hbel (x1 := .sl (some (H.length + 1, 0)) 4 (some 4)) (l2 := [.cells true 2 [.int .i64 x0, .int .i64 y0, .int .i64 x1, .int .i64 y0, .int .i64 x0, .int .i64 y1, .int .i64 x1, .int .i64 y1]]) (.sl (some (H.length, 0)) 4 none) (resT Tryz.results218) [] rfl [1] (by decide) ⟨rfl, rfl⟩ ?_)
  exact absW
theorem directed_c (H : AHeap) (s : AV) (l : List T6) (m : Int) (r : Int) (hs : Sl H 6 s l.length (r6 l)) (hS : setB l = true) : ACalls Tryz.prog 153 [s, .agg [.int .i64 m, .int .i64 r]] H (fun v H' => v = .sl (some (H.length, 0)) ((dirA l m).length) (capG (dirA l m).length) ∧ H' = H ++ [.cells (ownG (dirA l m).length) 9 (r9 (dirA l m))]) := by
  obtain ⟨bs, os, cs, rfl, hbs⟩ := hs
  have hbls := getElem?_lt hbs
  have hb0s := fun l => get_app (l := l) hbs
  have hln := setB_len hS
  refine AcT true Tryz.func153 ?_; intro hbel Q hQ
  have g'2 := (jn @hbs @hb0s)
  refine runTf g'2 ?_
  refine go_loop try_mixed (by kernel_rfl) (fun k F Hx => ∃ i : Nat, i + k = l.length ∧ F = [(3, .ptr (some (H.length, 0))), (5, .sl (some (H.length + 1, 0)) ((dirS l m i).length) (capG (dirS l m i).length)), (10, .sl (some (bs, 0)) l.length cs), (11, .int .i64 ((l.length : Nat) : Int)), (12, .int .i64 ((i : Nat) : Int))] ∧ Hx = H ++ [.cells true 0 [.int .i64 m, .int .i64 r], .cells (ownG (dirS l m i).length) 9 (r9 (dirS l m i))]) (l.length) ?_ ?_
  · refine ⟨_, _, _, ⟨0, by omega, rfl, rfl⟩, Abs.byG hbel [.cells false 9 []] rfl [0, 1] (by decide) ?_⟩
    exact absRf (jn @dirS.eq_1 (jn @r9_append (jn @r9_cons (jn @r9_nil @mvs_r9))))
  · rintro k0 F Hx ⟨i, hm0, rfl, rfl⟩ J0 hJ0
    have g'3 := (jn @r9_len (jn @r9_one g'2))
    refine runTf g'3 ?_
    refine cond_split (fun h1 => ?_) (fun h1 => ?_)
    · have h1d := bsT h1
      have hai : arcB (g65 l i) (g66 l i) = true := (bxB_iff.1 ((setB_iff.1 hS).2 (g6 l i) (g6_mem (by omega)))).2.2
      have hdl := dirS_len hS m i (by omega)
      have hmk := mkB_len hS (show i < l.length by omega)
      have q2 := r6_load (l := l) (j := i) (by omega)
      have g'4 := (jn @h1 (jn @h1d (jn @r6_len (jn @q2 g'3))))
      refine runTf g'4 ?_
      refine call_v (by kernel_rfl) (hlistk_c _ l i hai) ?_
      refine runTf g'4 ?_
      refine go_loop try_mixed (by kernel_rfl) (fun k F Hx => ∃ j : Nat, j + k = (mkB (g6 l i)).length ∧ F = [(3, .ptr (some (H.length, 0))), (5, .sl (some (H.length + 3, 0)) ((dirS l m i ++ dirB (g6 l i) m j).length) (capG (dirS l m i ++ dirB (g6 l i) m j).length)), (7, .ptr (some (H.length + 1, 0))), (10, .sl (some (bs, 0)) l.length cs), (11, .int .i64 ((l.length : Nat) : Int)), (12, .int .i64 ((i : Nat) : Int)), (21, .sl (some (H.length + 2, 0)) ((mkB (g6 l i)).length) none), (22, .int .i64 (((mkB (g6 l i)).length : Nat) : Int)), (23, .int .i64 ((j : Nat) : Int))] ∧ Hx = H ++ [.cells true 0 [.int .i64 m, .int .i64 r], .cells true 0 [.int .i64 (g61 l i), .int .i64 (g62 l i), .int .i64 (g63 l i), .int .i64 (g64 l i), .int .i64 (g65 l i), .int .i64 (g66 l i)], .cells true 1 (ints .i64 (mkB (g6 l i))), .cells (ownG (dirS l m i ++ dirB (g6 l i) m j).length) 9 (r9 (dirS l m i ++ dirB (g6 l i) m j))]) ((mkB (g6 l i)).length) ?_ ?_
      · refine ⟨_, _, _, ⟨0, by omega, rfl, rfl⟩, Abs.byG hbel [] rfl [0, 2, 3, 1] (by decide) ?_⟩
        exact absRf (jn @dirB.eq_1 (jn @List.append_nil.{0} (jn @r9_append (jn @r9_cons (jn @r9_nil @mvs_r9)))))
      · rintro k1 F Hx ⟨j, hm1, rfl, rfl⟩ J1 hJ1
        have hbl := dirB_len (g6 l i) m j
        have hst : dirB (g6 l i) m (j + 1) = dirB (g6 l i) m j ++ [(g61 l i, g62 l i, g63 l i, g64 l i, g65 l i, g66 l i, (beamV (gi (mkB (g6 l i)) j) m).1, (beamV (gi (mkB (g6 l i)) j) m).2.1, (beamV (gi (mkB (g6 l i)) j) m).2.2)] := rfl
        have g'5 := (jn @ints_len (jn @ints_ones g'4))
        refine runTf g'5 ?_
        refine cond_split (fun h3 => ?_) (fun h3 => ?_)
        · have h3d := bsT h3
          have q4 := ints_get (k := .i64) (xs := mkB (g6 l i)) (j := j) (by omega)
          have g'6 := (jn @h3 (jn @h3d (jn @q4 g'5)))
          refine runTf g'6 ?_
          refine call_d (by kernel_rfl) (hbeam_c _ (gi (mkB (g6 l i)) j) m) ?_
          have g'7 := (jn @prs_len (jn @capG_s g'6))
          refine runTf g'7 ?_
          refine hJ1 _ _ ⟨k1 - 1, by omega, _, _, _, ⟨j + 1, by omega, rfl, rfl⟩, Abs.byG hbel [] rfl [0, 1, 2, 5] (by decide) ?_⟩
          exact absRf (jn @hst (jn @List.append_assoc.{0} (jn @r9_append (jn @r9_cons (jn @r9_nil @mvs_r9)))))
        · have h3d := bsT h3
          obtain rfl : j = (mkB (g6 l i)).length := by omega
          have g'8 := (jn @h3 (jn @h3d g'5))
          refine runTf g'8 ?_
          refine hJ0 _ _ ⟨k0 - 1, by omega, _, _, _, ⟨i + 1, by omega, rfl, rfl⟩, Abs.byG hbel [] rfl [0, 3] (by decide) ?_⟩
          exact absRf (jn @dirS.eq_2 (jn @r9_append (jn @r9_cons (jn @r9_nil @mvs_r9))))
    · have h1d := bsT h1
      obtain rfl : i = l.length := by omega
      have g'9 := (jn @h1 (jn @h1d g'3))
      refine runTf g'9 ?_
      refine hQ _ _ (end_byG (.inl rfl) hbel (x1 := .sl (some (H.length + 1, 0)) ((dirS l m l.length).length) (capG (dirS l m l.length).length)) (l2 := [.cells (ownG (dirS l m l.length).length) 9 (r9 (dirS l m l.length))]) (.sl (some (H.length, 0)) ((dirS l m l.length).length) (capG (dirS l m l.length).length)) (resT Tryz.results153) [] rfl [1] (by decide) ⟨rfl, rfl⟩ ?_)
      exact absWf @mvs_r9
theorem passes_c (H : AHeap) (x0 : Int) (y0 : Int) (x1 : Int) (y1 : Int) (f : Int) (c : Int) (vx : Int) (vy : Int) (vd : Int) (s0 : Int) (t0 : Int) (s1 : Int) (t1 : Int) (far : Int) (hp : bxB x0 y0 x1 y1 f c = true) : ACalls Tryz.prog 220 [.agg [.int .i64 x0, .int .i64 y0, .int .i64 x1, .int .i64 y1, .int .i64 f, .int .i64 c, .int .i64 vx, .int .i64 vy, .int .i64 vd], .agg [.int .i64 s0, .int .i64 t0, .int .i64 s1, .int .i64 t1], .int .i64 far] H (fun v H' => v = .bool (psB (x0, y0, x1, y1, f, c, vx, vy, vd) s0 t0 s1 t1 far) ∧ H' = H) := by
  refine AcT true Tryz.func220 ?_; intro hbel Q hQ
  refine runT ?_
  refine call_v (by kernel_rfl) (corners_c _ x0 y0 x1 y1 f c (by assumption)) ?_
  refine runT ?_
  refine go_loop try_mixed (by kernel_rfl) (fun k F Hx => ∃ j : Nat, j + k = 4 ∧ ((1 ≤ j → sbfB x0 y0 vx vy vd far s0 t0 s1 t1 = true) ∧ (2 ≤ j → sbfB x1 y0 vx vy vd far s0 t0 s1 t1 = true) ∧ (3 ≤ j → sbfB x0 y1 vx vy vd far s0 t0 s1 t1 = true) ∧ (4 ≤ j → sbfB x1 y1 vx vy vd far s0 t0 s1 t1 = true)) ∧ F = [(2, .int .i64 far), (3, .ptr (some (H.length, 0))), (4, .ptr (some (H.length + 1, 0))), (11, .sl (some (H.length + 2, 0)) 4 none), (12, .int .i64 4), (13, .int .i64 ((j : Nat) : Int))] ∧ Hx = H ++ [.cells true 0 [.int .i64 x0, .int .i64 y0, .int .i64 x1, .int .i64 y1, .int .i64 f, .int .i64 c, .int .i64 vx, .int .i64 vy, .int .i64 vd], .cells true 0 [.int .i64 s0, .int .i64 t0, .int .i64 s1, .int .i64 t1], .cells true 2 [.int .i64 x0, .int .i64 y0, .int .i64 x1, .int .i64 y0, .int .i64 x0, .int .i64 y1, .int .i64 x1, .int .i64 y1]]) (4) ?_ ?_
  · refine ⟨_, _, _, ⟨0, by omega, ⟨fun h => by omega, fun h => by omega, fun h => by omega, fun h => by omega⟩, rfl, rfl⟩, Abs.byG hbel [] rfl [0, 1, 2] (by decide) ?_⟩
    exact absW
  · rintro k0 F Hx ⟨j, hm0, hal, rfl, rfl⟩ J0 hJ0
    refine runT ?_
    refine cond_split (fun h1 => ?_) (fun h1 => ?_)
    · have h1d := bsT h1
      obtain rfl | rfl | rfl | rfl := (by omega : j = 0 ∨ j = 1 ∨ j = 2 ∨ j = 3)
      · skip
        have g'10 := (jn @h1 @h1d)
        refine runTf g'10 ?_
        refine call_v (by kernel_rfl) (sbefore_c _ x0 y0 vx vy vd far s0 t0 s1 t1) ?_
        refine runTf g'10 ?_
        refine cond_split (fun h2 => ?_) (fun h2 => ?_)
        · have h2d := bsT h2
          have hfinP : psB (x0, y0, x1, y1, f, c, vx, vy, vd) s0 t0 s1 t1 far = false := by simp [psB, h2d]
          have g'11 := (jn @h2 (jn @h2d g'10))
          refine runTf g'11 ?_
          exact hQ _ _ (end_plain (.inl rfl) hbel (x := .bool false) (resT Tryz.results220) rfl ⟨by rw [hfinP], rfl⟩)
        · have h2d := bsT h2
          have hc0 := h2d
          have g'12 := (jn @h2 (jn @h2d g'10))
          refine runTf g'12 ?_
          refine hJ0 _ _ ⟨k0 - 1, by omega, _, _, _, ⟨0 + 1, by omega, by refine ⟨fun h => ?_, fun h => ?_, fun h => ?_, fun h => ?_⟩ <;> first | omega | assumption | exact hal.1 (by omega) | exact hal.2.1 (by omega) | exact hal.2.2.1 (by omega), rfl, rfl⟩, Abs.byG hbel [] rfl [0, 1, 2] (by decide) ?_⟩
          exact absW
      · skip
        have g'13 := (jn @h1 @h1d)
        refine runTf g'13 ?_
        refine call_v (by kernel_rfl) (sbefore_c _ x1 y0 vx vy vd far s0 t0 s1 t1) ?_
        refine runTf g'13 ?_
        refine cond_split (fun h3 => ?_) (fun h3 => ?_)
        · have h3d := bsT h3
          have hfinP : psB (x0, y0, x1, y1, f, c, vx, vy, vd) s0 t0 s1 t1 far = false := by simp [psB, h3d]
          have g'14 := (jn @h3 (jn @h3d g'13))
          refine runTf g'14 ?_
          exact hQ _ _ (end_plain (.inl rfl) hbel (x := .bool false) (resT Tryz.results220) rfl ⟨by rw [hfinP], rfl⟩)
        · have h3d := bsT h3
          have hc1 := h3d
          have g'15 := (jn @h3 (jn @h3d g'13))
          refine runTf g'15 ?_
          refine hJ0 _ _ ⟨k0 - 1, by omega, _, _, _, ⟨1 + 1, by omega, by refine ⟨fun h => ?_, fun h => ?_, fun h => ?_, fun h => ?_⟩ <;> first | omega | assumption | exact hal.1 (by omega) | exact hal.2.1 (by omega) | exact hal.2.2.1 (by omega), rfl, rfl⟩, Abs.byG hbel [] rfl [0, 1, 2] (by decide) ?_⟩
          exact absW
      · skip
        have g'16 := (jn @h1 @h1d)
        refine runTf g'16 ?_
        refine call_v (by kernel_rfl) (sbefore_c _ x0 y1 vx vy vd far s0 t0 s1 t1) ?_
        refine runTf g'16 ?_
        refine cond_split (fun h4 => ?_) (fun h4 => ?_)
        · have h4d := bsT h4
          have hfinP : psB (x0, y0, x1, y1, f, c, vx, vy, vd) s0 t0 s1 t1 far = false := by simp [psB, h4d]
          have g'17 := (jn @h4 (jn @h4d g'16))
          refine runTf g'17 ?_
          exact hQ _ _ (end_plain (.inl rfl) hbel (x := .bool false) (resT Tryz.results220) rfl ⟨by rw [hfinP], rfl⟩)
        · have h4d := bsT h4
          have hc2 := h4d
          have g'18 := (jn @h4 (jn @h4d g'16))
          refine runTf g'18 ?_
          refine hJ0 _ _ ⟨k0 - 1, by omega, _, _, _, ⟨2 + 1, by omega, by refine ⟨fun h => ?_, fun h => ?_, fun h => ?_, fun h => ?_⟩ <;> first | omega | assumption | exact hal.1 (by omega) | exact hal.2.1 (by omega) | exact hal.2.2.1 (by omega), rfl, rfl⟩, Abs.byG hbel [] rfl [0, 1, 2] (by decide) ?_⟩
          exact absW
      · skip
        have g'19 := (jn @h1 @h1d)
        refine runTf g'19 ?_
        refine call_v (by kernel_rfl) (sbefore_c _ x1 y1 vx vy vd far s0 t0 s1 t1) ?_
        refine runTf g'19 ?_
        refine cond_split (fun h5 => ?_) (fun h5 => ?_)
        · have h5d := bsT h5
          have hfinP : psB (x0, y0, x1, y1, f, c, vx, vy, vd) s0 t0 s1 t1 far = false := by simp [psB, h5d]
          have g'20 := (jn @h5 (jn @h5d g'19))
          refine runTf g'20 ?_
          exact hQ _ _ (end_plain (.inl rfl) hbel (x := .bool false) (resT Tryz.results220) rfl ⟨by rw [hfinP], rfl⟩)
        · have h5d := bsT h5
          have hc3 := h5d
          have g'21 := (jn @h5 (jn @h5d g'19))
          refine runTf g'21 ?_
          refine hJ0 _ _ ⟨k0 - 1, by omega, _, _, _, ⟨3 + 1, by omega, by refine ⟨fun h => ?_, fun h => ?_, fun h => ?_, fun h => ?_⟩ <;> first | omega | assumption | exact hal.1 (by omega) | exact hal.2.1 (by omega) | exact hal.2.2.1 (by omega), rfl, rfl⟩, Abs.byG hbel [] rfl [0, 1, 2] (by decide) ?_⟩
          exact absW
    · have h1d := bsT h1
      have hfinP : psB (x0, y0, x1, y1, f, c, vx, vy, vd) s0 t0 s1 t1 far = true := by unfold psB; simp only; rw [hal.1 (by omega), hal.2.1 (by omega), hal.2.2.1 (by omega), hal.2.2.2 (by omega)]; rfl
      have g'22 := (jn @h1 @h1d)
      refine runTf g'22 ?_
      exact hQ _ _ (end_plain (.inl rfl) hbel (x := .bool true) (resT Tryz.results220) rfl ⟨by rw [hfinP], rfl⟩)
theorem kprv1_c (H : AHeap) (x0 : Int) (y0 : Int) (x1 : Int) (y1 : Int) (f : Int) (c : Int) (vx : Int) (vy : Int) (vd : Int) (s0 : Int) (t0 : Int) (s1 : Int) (t1 : Int) (bz : Nat) (far : Int) (bw : Nat) (hz : ∃ o, H[bz]? = some (.cells o 0 [.int .i64 s0, .int .i64 t0, .int .i64 s1, .int .i64 t1])) (hw : ∃ o, H[bw]? = some (.cells o 0 [.int .i64 far])) (hp : bxB x0 y0 x1 y1 f c = true) : ACalls Tryz.prog 219 [.agg [.int .i64 x0, .int .i64 y0, .int .i64 x1, .int .i64 y1, .int .i64 f, .int .i64 c, .int .i64 vx, .int .i64 vy, .int .i64 vd], .ptr (some (bz, 0)), .ptr (some (bw, 0))] H (fun v H' => v = .bool (!(psB (x0, y0, x1, y1, f, c, vx, vy, vd) s0 t0 s1 t1 far)) ∧ H' = H) := by
  obtain ⟨oz, hbz⟩ := hz
  have hblz := getElem?_lt hbz
  have hb0z := fun l => get_app (l := l) hbz
  obtain ⟨ow, hbw⟩ := hw
  have hblw := getElem?_lt hbw
  have hb0w := fun l => get_app (l := l) hbw
  refine AcT true Tryz.func219 ?_; intro hbel Q hQ
  have g'23 := (jn @hbz (jn @hb0z (jn @hbw @hb0w)))
  refine runTf g'23 ?_
  refine call_v (by kernel_rfl) (passes_c _ x0 y0 x1 y1 f c vx vy vd s0 t0 s1 t1 far (by assumption)) ?_
  refine runTf g'23 ?_
  exact hQ _ _ (end_plain (.inl rfl) hbel (x := .bool (!(psB (x0, y0, x1, y1, f, c, vx, vy, vd) s0 t0 s1 t1 far))) (resT Tryz.results219) rfl ⟨rfl, rfl⟩)
theorem psqr_c (H : AHeap) (x : Int) (y : Int) : ACalls Tryz.prog 125 [.agg [.int .i64 x, .int .i64 y]] H (fun v H' => v = .tup [.agg [.int .i64 (mkV (sqO x y) (x * 64)), .int .i64 (mkV (sqO x y) (y * 64)), .int .i64 (mkV (sqO x y) (x * 64 + 64)), .int .i64 (mkV (sqO x y) (y * 64 + 64))], .bool (sqO x y)] ∧ H' = H) := by
  refine AcT true Tryz.func125 ?_; intro hbel Q hQ
  refine runT ?_
  refine call_v (by kernel_rfl) (pwithin_c _ x 16384 (by omega)) ?_
  refine runT ?_
  refine gd_split (fun h1 => ?_) (fun h1 => ?_)
  · have h1d := bsT h1
    have wx := within_iff.1 h1d
    have g'24 := (jn @h1 @h1d)
    refine runTf g'24 ?_
    refine call_v (by kernel_rfl) (pwithin_c _ y 16384 (by omega)) ?_
    refine runTf g'24 ?_
    refine cond_split (fun h2 => ?_) (fun h2 => ?_)
    · have h2d := bsT h2
      have wy : ¬ (-16384 ≤ y ∧ y ≤ 16384) := mt within_iff.2 (by rw [h2d]; decide)
      have g'25 := (jn @h2 (jn @h2d g'24))
      refine runTf g'25 ?_
      exact hQ _ _ (end_plain (.inl rfl) hbel (x := .tup [.agg [.int .i64 0, .int .i64 0, .int .i64 0, .int .i64 0], .bool false]) (resT Tryz.results125) rfl ⟨by simp [mkV, sqO, h1d, h2d], rfl⟩)
    · have h2d := bsT h2
      have wy := within_iff.1 h2d
      have g'26 := (jn @h2 (jn @h2d g'24))
      refine runTf g'26 ?_
      refine call_v (by kernel_rfl) (psquare_c _ x y (by omega) (by omega)) ?_
      refine runTf g'26 ?_
      exact hQ _ _ (end_plain (.inl rfl) hbel (x := .tup [.agg [.int .i64 (x * 64), .int .i64 (y * 64), .int .i64 (x * 64 + 64), .int .i64 (y * 64 + 64)], .bool true]) (resT Tryz.results125) rfl ⟨by simp [mkV, sqO, h1d, h2d], rfl⟩)
  · have h1d := bsT h1
    have wx : ¬ (-16384 ≤ x ∧ x ≤ 16384) := mt within_iff.2 (by rw [h1d]; decide)
    have g'27 := (jn @h1 @h1d)
    refine runTf g'27 ?_
    exact hQ _ _ (end_plain (.inl rfl) hbel (x := .tup [.agg [.int .i64 0, .int .i64 0, .int .i64 0, .int .i64 0], .bool false]) (resT Tryz.results125) rfl ⟨by simp [mkV, sqO, h1d], rfl⟩)
theorem psqr_t (H : AHeap) (x y : Int) (h : sqO x y = true) : ACalls Tryz.prog 125 [.agg [.int .i64 x, .int .i64 y]] H (fun v H' => v = .tup [.agg [.int .i64 (x * 64), .int .i64 (y * 64), .int .i64 (x * 64 + 64), .int .i64 (y * 64 + 64)], .bool true] ∧ H' = H) := by
  have q := psqr_c H x y
  simp only [h, mkV, if_true] at q; exact q
theorem psqr_f (H : AHeap) (x y : Int) (h : sqO x y = false) : ACalls Tryz.prog 125 [.agg [.int .i64 x, .int .i64 y]] H (fun v H' => v = .tup [.agg [.int .i64 0, .int .i64 0, .int .i64 0, .int .i64 0], .bool false] ∧ H' = H) := by
  have q := psqr_c H x y
  simp only [h, mkV, if_false, Bool.false_eq_true] at q; exact q
open Go.RowKit
theorem proven_c (H : AHeap) (W : Int) (Hh : Int) (pp : AV) (xs : List Int) (s : AV) (l : List T6) (m : Int) (r : Int) (g : Int) (hpp : Sl H 1 pp xs.length (ints .u8 xs)) (hs : Sl H 6 s l.length (r6 l)) (hV : vldB W Hh xs = true) (hS : setB l = true) (hl0 : 0 < l.length) (hr : -1 ≤ r ∧ r ≤ 1024) (hg : 1 ≤ g ∧ g ≤ 32) : ACalls Tryz.prog 146 [.agg [.int .i64 W, .int .i64 Hh, pp], s, .agg [.int .i64 m, .int .i64 r], .int .i64 g] H (fun v H' => v = .sl (some (H.length, 0)) ((prvL W Hh l m r g).length) (capG (prvL W Hh l m r g).length) ∧ H' = H ++ [.cells (ownG (prvL W Hh l m r g).length) 2 (prs (prvL W Hh l m r g))]) := by
  obtain ⟨bpp, opp, cpp, rfl, hbpp⟩ := hpp
  have hblpp := getElem?_lt hbpp
  have hb0pp := fun l => get_app (l := l) hbpp
  obtain ⟨bs, os, cs, rfl, hbs⟩ := hs
  have hbls := getElem?_lt hbs
  have hb0s := fun l => get_app (l := l) hbs
  have hvl := vld_iff.1 hV
  have hWb : 1 ≤ W ∧ W ≤ 64 ∧ 1 ≤ Hh ∧ Hh ≤ 64 := by obtain ⟨a, b, c, d, -⟩ := hvl; omega
  have hda := dirA_len hS m
  have hpair : ∀ j', j' < (dirA l m).length → bxB (g91 (dirA l m) j') (g92 (dirA l m) j') (g93 (dirA l m) j') (g94 (dirA l m) j') (g95 (dirA l m) j') (g96 (dirA l m) j') = true := fun j' hj' => by
    have k := dirA_ok hS (g9_mem hj')
    unfold pairB at k; rw [Bool.and_eq_true] at k; exact k.1
  have hp0 := hpair 0 (by omega)
  have hfl := fstL_len l m (farF r g)
  (refine ACalls_pieces Tryz.func146 _ rfl (Nat.le_of_ble_eq_true (by kernel_rfl)) rfl ?_; intro hbel Q hQ hQ' c hc; unfold Tryz.f146 at hc; simp only [Option.some.injEq] at hc; subst hc; clear hQ')
  refine AW_seqQ fun Q1 hn1 hr1 he1 => ?_
  have hQ1 := fun F H' h => hr1 F H' (hQ F H' h)
  refine AW_fin false try_mixed (by kernel_rfl) ?_
  have g'1 := (jn @hbpp (jn @hb0pp (jn @hbs @hb0s)))
  refine runTf g'1 ?_
  refine hn1 _ _ ?_
  refine AW_seqQ fun Q2 hn2 hr2 he2 => ?_
  have hQ2 := fun F H' h => hr2 F H' (hQ F H' h)
  refine AW_fin false try_mixed (by kernel_rfl) ?_
  refine runTf g'1 ?_
  refine hn2 _ _ ?_
  refine AW_seqQ fun Q3 hn3 hr3 he3 => ?_
  have hQ3 := fun F H' h => hr3 F H' (hQ F H' h)
  refine AW_fin false try_mixed (by kernel_rfl) ?_
  refine runTf g'1 ?_
  refine cond_split (fun h1 => ?_) (fun h1 => ?_)
  · have h1d := bsT h1
    have h1n := bnT h1
    have hr1 : r = -1 := by simpa using h1d
    have hsf1 : 1024 - g = farF r g := (if_pos hr1).symm
    have g'2 := (jn @h1 (jn @h1n (jn @int_bne (jn @int_beq (jn @hsf1 g'1)))))
    refine runTf g'2 ?_
    refine hn3 _ _ ?_
    refine AW_seqQ fun Q4 hn4 hr4 he4 => ?_
    have hQ4 := fun F H' h => hr4 F H' (hQ F H' h)
    refine AW_fin false try_mixed (by kernel_rfl) ?_
    refine runTf g'2 ?_
    refine cond_split (fun h2 => ?_) (fun h2 => ?_)
    · have h2d := bsT h2
      have hfinL : prvL W Hh l m r g = [] := if_pos h2d
      have g'3 := (jn @h2 (jn @h2d g'2))
      refine runTf g'3 ?_
      refine hQ4 _ _ (end_byG (.inl rfl) hbel (x1 := .sl none 0 (some 0)) (l2 := [.cells false 2 []]) (.sl (some (H.length, 0)) 0 (some 0)) (resT Tryz.results146) [.cells false 2 []] rfl [3] (by decide) ⟨by first | (rw [hfinL]; done) | (rw [hfinL]; rfl), by first | (rw [hfinL]; done) | (rw [hfinL]; rfl)⟩ ?_)
      exact absW
    · have h2d := bsT h2
      have hfar := h2d
      have g'4 := (jn @h2 (jn @h2d g'2))
      refine runTf g'4 ?_
      refine hn4 _ _ ?_
      refine AW_seqQ fun Q5 hn5 hr5 he5 => ?_
      have hQ5 := fun F H' h => hr5 F H' (hQ F H' h)
      refine AW_fin false try_mixed (by kernel_rfl) ?_
      refine runTf g'4 ?_
      refine call_v (by kernel_rfl) (directed_c _ _ l m r ⟨_, _, _, rfl, by first | exact hb0s _ | exact hbs⟩ (by assumption)) ?_
      refine runTf g'4 ?_
      refine hn5 _ _ ?_
      refine AW_specialZ false try_mixed [[0, 1, 2, 3, 4, 5, 6, 7, 8, 9, 10, 11, 12, 13, 14, 15, 16, 17], [0, 1, 2, 3, 7, 8, 9, 11, 4, 5, 6, 10, 12, 13, 14, 15, 16, 17], [0, 1, 2, 3, 7, 8, 9, 10, 4, 5, 6, 11, 12, 13, 14, 15, 16, 17], [0, 1, 2, 3, 7, 8, 9, 10, 11, 4, 5, 6, 12, 13, 14, 15, 16, 17]] (by kernel_rfl) (fun F2 H2 => F2 = [(4, .ptr (some (H.length, 0))), (8, .sl none 0 (some 0)), (9, .ptr (some (H.length + 1, 0))), (10, .sl (some (H.length + 2, 0)) ((dirA l m).length) (capG (dirA l m).length)), (11, .sl (some (H.length + 3, 0)) ((fstL l m (farF r g)).length) (capG (fstL l m (farF r g)).length))] ∧ H2 = H ++ [.cells true 0 [.int .i64 W, .int .i64 Hh, .sl (some (bpp, 0)) xs.length cpp], .cells true 0 [.int .i64 (farF r g)], .cells (ownG (dirA l m).length) 9 (r9 (dirA l m)), .cells (ownG (fstL l m (farF r g)).length) 2 (prs (fstL l m (farF r g)))]) ?_ ?_
      · refine reps_cons ?_ (reps_cons ?_ (reps_cons ?_ (reps_cons ?_ (reps_nil)))) <;> intro J hJ
        · skip
          have q3 := r9_q0 (l := dirA l m) (by omega)
          have g'5 := (jn @r9_len (jn @q3 g'4))
          refine runDf g'5 ?_
          refine call_x (by kernel_rfl) (by simp) (corners_c _ (g91 (dirA l m) 0) (g92 (dirA l m) 0) (g93 (dirA l m) 0) (g94 (dirA l m) 0) (g95 (dirA l m) 0) (g96 (dirA l m) 0) (by assumption)) ?_
          have q4 := r9_q6 (l := dirA l m) (by omega)
          have g'6 := (jn @q4 g'5)
          refine runDf g'6 ?_
          refine call_x (by kernel_rfl) (by simp) (tracedf_c _ l m (farF r g)) ?_
          refine runDf g'6 ?_
          refine inv_of (hJ _ _ ⟨_, _, _, ⟨rfl, rfl⟩, Abs.byG hbel [] rfl [0, 2, 3, 5] (by decide) ?_⟩)
          exact absRf (jn @r9_append (jn @r9_cons (jn @r9_nil @mvs_r9)))
        · skip
          have q5 := r9_q0 (l := dirA l m) (by omega)
          have g'7 := (jn @r9_len (jn @q5 g'4))
          refine runDf g'7 ?_
          refine call_x (by kernel_rfl) (by simp) (corners_c _ (g91 (dirA l m) 0) (g92 (dirA l m) 0) (g93 (dirA l m) 0) (g94 (dirA l m) 0) (g95 (dirA l m) 0) (g96 (dirA l m) 0) (by assumption)) ?_
          have q6 := r9_q6 (l := dirA l m) (by omega)
          have g'8 := (jn @q6 g'7)
          refine runDf g'8 ?_
          refine call_x (by kernel_rfl) (by simp) (tracedf_c _ l m (farF r g)) ?_
          refine runDf g'8 ?_
          refine inv_of (hJ _ _ ⟨_, _, _, ⟨rfl, rfl⟩, Abs.byG hbel [] rfl [0, 2, 3, 5] (by decide) ?_⟩)
          exact absRf (jn @r9_append (jn @r9_cons (jn @r9_nil @mvs_r9)))
        · skip
          have q7 := r9_q0 (l := dirA l m) (by omega)
          have q8 := r9_q6 (l := dirA l m) (by omega)
          have g'9 := (jn @r9_len (jn @q7 (jn @q8 g'4)))
          refine runDf g'9 ?_
          refine call_x (by kernel_rfl) (by simp) (corners_c _ (g91 (dirA l m) 0) (g92 (dirA l m) 0) (g93 (dirA l m) 0) (g94 (dirA l m) 0) (g95 (dirA l m) 0) (g96 (dirA l m) 0) (by assumption)) ?_
          refine runDf g'9 ?_
          refine call_x (by kernel_rfl) (by simp) (tracedf_c _ l m (farF r g)) ?_
          refine runDf g'9 ?_
          refine inv_of (hJ _ _ ⟨_, _, _, ⟨rfl, rfl⟩, Abs.byG hbel [] rfl [0, 2, 3, 5] (by decide) ?_⟩)
          exact absRf (jn @r9_append (jn @r9_cons (jn @r9_nil @mvs_r9)))
        · skip
          have q9 := r9_q0 (l := dirA l m) (by omega)
          have q10 := r9_q6 (l := dirA l m) (by omega)
          have g'10 := (jn @r9_len (jn @q9 (jn @q10 g'4)))
          refine runDf g'10 ?_
          refine call_x (by kernel_rfl) (by simp) (corners_c _ (g91 (dirA l m) 0) (g92 (dirA l m) 0) (g93 (dirA l m) 0) (g94 (dirA l m) 0) (g95 (dirA l m) 0) (g96 (dirA l m) 0) (by assumption)) ?_
          refine runDf g'10 ?_
          refine call_x (by kernel_rfl) (by simp) (tracedf_c _ l m (farF r g)) ?_
          refine runDf g'10 ?_
          refine inv_of (hJ _ _ ⟨_, _, _, ⟨rfl, rfl⟩, Abs.byG hbel [] rfl [0, 2, 3, 5] (by decide) ?_⟩)
          exact absRf (jn @r9_append (jn @r9_cons (jn @r9_nil @mvs_r9)))
      rintro F2 H2 ⟨rfl, rfl⟩
      refine AW_fin false try_mixed (by kernel_rfl) ?_
      have g'11 := (jn @r9_len (jn @r9_one (jn @prs_len (jn @prs_one g'4))))
      refine runTf g'11 ?_
      refine go_loop try_mixed (by kernel_rfl) (fun k F Hx => ∃ j : Nat, j + k = (fstL l m (farF r g)).length ∧ F = [(4, .ptr (some (H.length, 0))), (9, .ptr (some (H.length + 1, 0))), (10, .sl (some (H.length + 2, 0)) ((dirA l m).length) (capG (dirA l m).length)), (13, .sl (some (H.length + 4, 0)) ((((fstL l m (farF r g)).take j).filter (okcB W Hh l m (farF r g))).length) (capG (((fstL l m (farF r g)).take j).filter (okcB W Hh l m (farF r g))).length)), (49, .sl (some (H.length + 3, 0)) ((fstL l m (farF r g)).length) (capG (fstL l m (farF r g)).length)), (50, .int .i64 (((fstL l m (farF r g)).length : Nat) : Int)), (51, .int .i64 ((j : Nat) : Int))] ∧ Hx = H ++ [.cells true 0 [.int .i64 W, .int .i64 Hh, .sl (some (bpp, 0)) xs.length cpp], .cells true 0 [.int .i64 (farF r g)], .cells (ownG (dirA l m).length) 9 (r9 (dirA l m)), .cells (ownG (fstL l m (farF r g)).length) 2 (prs (fstL l m (farF r g))), .cells (ownG (((fstL l m (farF r g)).take j).filter (okcB W Hh l m (farF r g))).length) 2 (prs (((fstL l m (farF r g)).take j).filter (okcB W Hh l m (farF r g))))]) ((fstL l m (farF r g)).length) ?_ ?_
      · refine ⟨_, _, _, ⟨0, by omega, rfl, rfl⟩, Abs.byG hbel [.cells false 2 []] rfl [0, 1, 2, 3, 4] (by decide) ?_⟩
        exact absRf (jn @List.take_zero.{0} (jn @List.filter_nil.{0} (jn @r9_append (jn @r9_cons (jn @r9_nil @mvs_r9)))))
      · rintro k0 F Hx ⟨j, hm0, rfl, rfl⟩ J0 hJ0
        refine runTf g'11 ?_
        refine cond_split (fun h11 => ?_) (fun h11 => ?_)
        · have h11d := bsT h11
          have hlt : j < (fstL l m (farF r g)).length := by omega
          have hpr := (pr_eq hlt).symm
          have hst := flt_step (p := (okcB W Hh l m (farF r g))) hlt
          have hfln := flt_len (p := (okcB W Hh l m (farF r g))) (l := (fstL l m (farF r g))) (j := j)
          have q12 := prs_load (l := fstL l m (farF r g)) (j := j) (by omega)
          have g'12 := (jn @h11 (jn @h11d (jn @q12 g'11)))
          refine runTf g'12 ?_
          rcases Bool.eq_false_or_eq_true (sqO (g1 (fstL l m (farF r g)) j) (g2 (fstL l m (farF r g)) j)) with h13 | h13
          · have h13d := h13
            have hsq := h13d
            refine call_v (by kernel_rfl) (psqr_t _ (g1 (fstL l m (farF r g)) j) (g2 (fstL l m (farF r g)) j) (by assumption)) ?_
            have g'13 := (jn @h13 (jn @h13d g'12))
            refine runTf g'13 ?_
            refine call_v (by kernel_rfl) (kwithin_c _ (g1 (fstL l m (farF r g)) j) 0 (W - 1)) ?_
            refine runTf g'13 ?_
            refine gd_split (fun h14 => ?_) (fun h14 => ?_)
            · have h14d := bsT h14
              have hbx := h14d
              have g'14 := (jn @h14 (jn @h14d g'13))
              refine runTf g'14 ?_
              refine call_v (by kernel_rfl) (kwithin_c _ (g2 (fstL l m (farF r g)) j) 0 (Hh - 1)) ?_
              refine runTf g'14 ?_
              refine gd_split (fun h15 => ?_) (fun h15 => ?_)
              · have h15d := bsT h15
                have hby := h15d
                have g'15 := (jn @h15 (jn @h15d g'14))
                refine runTf g'15 ?_
                refine call_v (by kernel_rfl) (has_r _ _ (dirA l m) ⟨_, _, _, by first | rfl | (rw [List.length_append]; done) | (rw [List.length_append]; rfl), by first | rfl | (rw [get_newk]; rfl) | (rw [get_new0]; rfl) | (rw [get_newk, prs_append]; rfl) | (rw [get_new0, prs_append]; rfl)⟩ (by omega) _ [.ptr (some (H.length + 6, 0)), .ptr (some (H.length + 1, 0))] (by kernel_rfl) (by simp [AV.bels, AV.bel]) (fun e => !psC e (farF r g) (g1 (fstL l m (farF r g)) j, g2 (fstL l m (farF r g)) j)) (fun j' hj' => kprv1_c _ _ _ _ _ _ _ _ _ _ _ _ _ _ _ _ _ ⟨_, by first | (rw [get_newk]; rfl) | (rw [get_new0]; rfl)⟩ ⟨_, by first | (rw [get_newk]; rfl) | (rw [get_new0]; rfl)⟩ (hpair _ hj'))) ?_
                refine runTf g'15 ?_
                refine cond_split (fun h16 => ?_) (fun h16 => ?_)
                · have h16d := bsT h16
                  have hok : okcB W Hh l m (farF r g) (g1 (fstL l m (farF r g)) j, g2 (fstL l m (farF r g)) j) = true := by unfold okcB prvB; rw [hbx, hby, List.all_eq_not_any_not, h16d]; rfl
                  rw [hpr, if_pos hok] at hst
                  have g'16 := (jn @h16 (jn @h16d (jn @capG_s g'15)))
                  refine runTf g'16 ?_
                  refine hJ0 _ _ ⟨k0 - 1, by omega, _, _, _, ⟨j + 1, by omega, rfl, rfl⟩, Abs.byG hbel [] rfl [0, 1, 2, 3, 8] (by decide) ?_⟩
                  exact absRf (jn @hst (jn @r9_append (jn @r9_cons (jn @r9_nil @mvs_r9))))
                · have h16d := bsT h16
                  have hok : okcB W Hh l m (farF r g) (g1 (fstL l m (farF r g)) j, g2 (fstL l m (farF r g)) j) = false := by unfold okcB prvB; rw [hbx, hby, List.all_eq_not_any_not, h16d]; rfl
                  rw [hpr, if_neg (by rw [hok]; decide), List.append_nil] at hst
                  have g'17 := (jn @h16 (jn @h16d g'15))
                  refine runTf g'17 ?_
                  refine hJ0 _ _ ⟨k0 - 1, by omega, _, _, _, ⟨j + 1, by omega, rfl, rfl⟩, Abs.byG hbel [] rfl [0, 1, 2, 3, 4] (by decide) ?_⟩
                  exact absRf (jn @hst (jn @r9_append (jn @r9_cons (jn @r9_nil @mvs_r9))))
              · have h15d := bsT h15
                have hok : okcB W Hh l m (farF r g) (g1 (fstL l m (farF r g)) j, g2 (fstL l m (farF r g)) j) = false := by unfold okcB; rw [hbx, h15d]; rfl
                rw [hpr, if_neg (by rw [hok]; decide), List.append_nil] at hst
                have g'18 := (jn @h15 (jn @h15d g'14))
                refine runTf g'18 ?_
                refine hJ0 _ _ ⟨k0 - 1, by omega, _, _, _, ⟨j + 1, by omega, rfl, rfl⟩, Abs.byG hbel [] rfl [0, 1, 2, 3, 4] (by decide) ?_⟩
                exact absRf (jn @hst (jn @r9_append (jn @r9_cons (jn @r9_nil @mvs_r9))))
            · have h14d := bsT h14
              have hok : okcB W Hh l m (farF r g) (g1 (fstL l m (farF r g)) j, g2 (fstL l m (farF r g)) j) = false := by unfold okcB; rw [h14d]; rfl
              rw [hpr, if_neg (by rw [hok]; decide), List.append_nil] at hst
              have g'19 := (jn @h14 (jn @h14d g'13))
              refine runTf g'19 ?_
              refine hJ0 _ _ ⟨k0 - 1, by omega, _, _, _, ⟨j + 1, by omega, rfl, rfl⟩, Abs.byG hbel [] rfl [0, 1, 2, 3, 4] (by decide) ?_⟩
              exact absRf (jn @hst (jn @r9_append (jn @r9_cons (jn @r9_nil @mvs_r9))))
          · have h13d := h13
            have hsq := h13d
            refine call_v (by kernel_rfl) (psqr_f _ (g1 (fstL l m (farF r g)) j) (g2 (fstL l m (farF r g)) j) (by assumption)) ?_
            have g'20 := (jn @h13 (jn @h13d g'12))
            refine runTf g'20 ?_
            refine call_v (by kernel_rfl) (kwithin_c _ (g1 (fstL l m (farF r g)) j) 0 (W - 1)) ?_
            refine runTf g'20 ?_
            refine gd_split (fun h17 => ?_) (fun h17 => ?_)
            · have h17d := bsT h17
              have hbx := h17d
              have g'21 := (jn @h17 (jn @h17d g'20))
              refine runTf g'21 ?_
              refine call_v (by kernel_rfl) (kwithin_c _ (g2 (fstL l m (farF r g)) j) 0 (Hh - 1)) ?_
              refine runTf g'21 ?_
              refine gd_split (fun h18 => ?_) (fun h18 => ?_)
              · have h18d := bsT h18
                have hby := h18d
                have hq1 := btw_iff.1 hbx
                have hq2 := btw_iff.1 hby
                exact absurd (show sqO (g1 (fstL l m (farF r g)) j) (g2 (fstL l m (farF r g)) j) = true by unfold sqO; rw [Bool.and_eq_true, within_iff, within_iff]; omega) (by rw [hsq]; decide)
              · have h18d := bsT h18
                have hok : okcB W Hh l m (farF r g) (g1 (fstL l m (farF r g)) j, g2 (fstL l m (farF r g)) j) = false := by unfold okcB; rw [hbx, h18d]; rfl
                rw [hpr, if_neg (by rw [hok]; decide), List.append_nil] at hst
                have g'22 := (jn @h18 (jn @h18d g'21))
                refine runTf g'22 ?_
                refine hJ0 _ _ ⟨k0 - 1, by omega, _, _, _, ⟨j + 1, by omega, rfl, rfl⟩, Abs.byG hbel [] rfl [0, 1, 2, 3, 4] (by decide) ?_⟩
                exact absRf (jn @hst (jn @r9_append (jn @r9_cons (jn @r9_nil @mvs_r9))))
            · have h17d := bsT h17
              have hok : okcB W Hh l m (farF r g) (g1 (fstL l m (farF r g)) j, g2 (fstL l m (farF r g)) j) = false := by unfold okcB; rw [h17d]; rfl
              rw [hpr, if_neg (by rw [hok]; decide), List.append_nil] at hst
              have g'23 := (jn @h17 (jn @h17d g'20))
              refine runTf g'23 ?_
              refine hJ0 _ _ ⟨k0 - 1, by omega, _, _, _, ⟨j + 1, by omega, rfl, rfl⟩, Abs.byG hbel [] rfl [0, 1, 2, 3, 4] (by decide) ?_⟩
              exact absRf (jn @hst (jn @r9_append (jn @r9_cons (jn @r9_nil @mvs_r9))))
        · have h11d := bsT h11
          obtain rfl : j = (fstL l m (farF r g)).length := by omega
          have hfinL : ((fstL l m (farF r g)).take (fstL l m (farF r g)).length).filter (okcB W Hh l m (farF r g)) = prvL W Hh l m r g := by rw [List.take_length]; exact (if_neg hfar).symm
          have g'24 := (jn @h11 (jn @h11d g'11))
          refine runTf g'24 ?_
          refine hQ _ _ (end_byG (.inl rfl) hbel (x1 := .sl (some (H.length + 4, 0)) ((((fstL l m (farF r g)).take (fstL l m (farF r g)).length).filter (okcB W Hh l m (farF r g))).length) (capG (((fstL l m (farF r g)).take (fstL l m (farF r g)).length).filter (okcB W Hh l m (farF r g))).length)) (l2 := [.cells (ownG (((fstL l m (farF r g)).take (fstL l m (farF r g)).length).filter (okcB W Hh l m (farF r g))).length) 2 (prs (((fstL l m (farF r g)).take (fstL l m (farF r g)).length).filter (okcB W Hh l m (farF r g))))]) (.sl (some (H.length, 0)) ((((fstL l m (farF r g)).take (fstL l m (farF r g)).length).filter (okcB W Hh l m (farF r g))).length) (capG (((fstL l m (farF r g)).take (fstL l m (farF r g)).length).filter (okcB W Hh l m (farF r g))).length)) (resT Tryz.results146) [] rfl [4] (by decide) ⟨by first | (rw [hfinL]; done) | (rw [hfinL]; rfl), by first | (rw [hfinL]; done) | (rw [hfinL]; rfl)⟩ ?_)
          exact absW
  · have h1d := bsT h1
    have h1n := bnT h1
    have hr1 : ¬ r = -1 := by simpa using h1d
    have hsf1 : r - g = farF r g := (if_neg hr1).symm
    have g'25 := (jn @h1 (jn @h1n (jn @int_bne (jn @int_beq (jn @hsf1 g'1)))))
    refine runTf g'25 ?_
    refine hn3 _ _ ?_
    refine AW_seqQ fun Q6 hn6 hr6 he6 => ?_
    have hQ6 := fun F H' h => hr6 F H' (hQ F H' h)
    refine AW_fin false try_mixed (by kernel_rfl) ?_
    refine runTf g'25 ?_
    refine cond_split (fun h19 => ?_) (fun h19 => ?_)
    · have h19d := bsT h19
      have hfinL : prvL W Hh l m r g = [] := if_pos h19d
      have g'26 := (jn @h19 (jn @h19d g'25))
      refine runTf g'26 ?_
      refine hQ6 _ _ (end_byG (.inl rfl) hbel (x1 := .sl none 0 (some 0)) (l2 := [.cells false 2 []]) (.sl (some (H.length, 0)) 0 (some 0)) (resT Tryz.results146) [.cells false 2 []] rfl [3] (by decide) ⟨by first | (rw [hfinL]; done) | (rw [hfinL]; rfl), by first | (rw [hfinL]; done) | (rw [hfinL]; rfl)⟩ ?_)
      exact absW
    · have h19d := bsT h19
      have hfar := h19d
      have g'27 := (jn @h19 (jn @h19d g'25))
      refine runTf g'27 ?_
      refine hn6 _ _ ?_
      refine AW_seqQ fun Q7 hn7 hr7 he7 => ?_
      have hQ7 := fun F H' h => hr7 F H' (hQ F H' h)
      refine AW_fin false try_mixed (by kernel_rfl) ?_
      refine runTf g'27 ?_
      refine call_v (by kernel_rfl) (directed_c _ _ l m r ⟨_, _, _, rfl, by first | exact hb0s _ | exact hbs⟩ (by assumption)) ?_
      refine runTf g'27 ?_
      refine hn7 _ _ ?_
      refine AW_specialZ false try_mixed [[0, 1, 2, 3, 4, 5, 6, 7, 8, 9, 10, 11, 12, 13, 14, 15, 16, 17], [0, 1, 2, 3, 7, 8, 9, 11, 4, 5, 6, 10, 12, 13, 14, 15, 16, 17], [0, 1, 2, 3, 7, 8, 9, 10, 4, 5, 6, 11, 12, 13, 14, 15, 16, 17], [0, 1, 2, 3, 7, 8, 9, 10, 11, 4, 5, 6, 12, 13, 14, 15, 16, 17]] (by kernel_rfl) (fun F2 H2 => F2 = [(4, .ptr (some (H.length, 0))), (8, .sl none 0 (some 0)), (9, .ptr (some (H.length + 1, 0))), (10, .sl (some (H.length + 2, 0)) ((dirA l m).length) (capG (dirA l m).length)), (11, .sl (some (H.length + 3, 0)) ((fstL l m (farF r g)).length) (capG (fstL l m (farF r g)).length))] ∧ H2 = H ++ [.cells true 0 [.int .i64 W, .int .i64 Hh, .sl (some (bpp, 0)) xs.length cpp], .cells true 0 [.int .i64 (farF r g)], .cells (ownG (dirA l m).length) 9 (r9 (dirA l m)), .cells (ownG (fstL l m (farF r g)).length) 2 (prs (fstL l m (farF r g)))]) ?_ ?_
      · refine reps_cons ?_ (reps_cons ?_ (reps_cons ?_ (reps_cons ?_ (reps_nil)))) <;> intro J hJ
        · skip
          have q20 := r9_q0 (l := dirA l m) (by omega)
          have g'28 := (jn @r9_len (jn @q20 g'27))
          refine runDf g'28 ?_
          refine call_x (by kernel_rfl) (by simp) (corners_c _ (g91 (dirA l m) 0) (g92 (dirA l m) 0) (g93 (dirA l m) 0) (g94 (dirA l m) 0) (g95 (dirA l m) 0) (g96 (dirA l m) 0) (by assumption)) ?_
          have q21 := r9_q6 (l := dirA l m) (by omega)
          have g'29 := (jn @q21 g'28)
          refine runDf g'29 ?_
          refine call_x (by kernel_rfl) (by simp) (tracedf_c _ l m (farF r g)) ?_
          refine runDf g'29 ?_
          refine inv_of (hJ _ _ ⟨_, _, _, ⟨rfl, rfl⟩, Abs.byG hbel [] rfl [0, 2, 3, 5] (by decide) ?_⟩)
          exact absRf (jn @r9_append (jn @r9_cons (jn @r9_nil @mvs_r9)))
        · skip
          have q22 := r9_q0 (l := dirA l m) (by omega)
          have g'30 := (jn @r9_len (jn @q22 g'27))
          refine runDf g'30 ?_
          refine call_x (by kernel_rfl) (by simp) (corners_c _ (g91 (dirA l m) 0) (g92 (dirA l m) 0) (g93 (dirA l m) 0) (g94 (dirA l m) 0) (g95 (dirA l m) 0) (g96 (dirA l m) 0) (by assumption)) ?_
          have q23 := r9_q6 (l := dirA l m) (by omega)
          have g'31 := (jn @q23 g'30)
          refine runDf g'31 ?_
          refine call_x (by kernel_rfl) (by simp) (tracedf_c _ l m (farF r g)) ?_
          refine runDf g'31 ?_
          refine inv_of (hJ _ _ ⟨_, _, _, ⟨rfl, rfl⟩, Abs.byG hbel [] rfl [0, 2, 3, 5] (by decide) ?_⟩)
          exact absRf (jn @r9_append (jn @r9_cons (jn @r9_nil @mvs_r9)))
        · skip
          have q24 := r9_q0 (l := dirA l m) (by omega)
          have q25 := r9_q6 (l := dirA l m) (by omega)
          have g'32 := (jn @r9_len (jn @q24 (jn @q25 g'27)))
          refine runDf g'32 ?_
          refine call_x (by kernel_rfl) (by simp) (corners_c _ (g91 (dirA l m) 0) (g92 (dirA l m) 0) (g93 (dirA l m) 0) (g94 (dirA l m) 0) (g95 (dirA l m) 0) (g96 (dirA l m) 0) (by assumption)) ?_
          refine runDf g'32 ?_
          refine call_x (by kernel_rfl) (by simp) (tracedf_c _ l m (farF r g)) ?_
          refine runDf g'32 ?_
          refine inv_of (hJ _ _ ⟨_, _, _, ⟨rfl, rfl⟩, Abs.byG hbel [] rfl [0, 2, 3, 5] (by decide) ?_⟩)
          exact absRf (jn @r9_append (jn @r9_cons (jn @r9_nil @mvs_r9)))
        · skip
          have q26 := r9_q0 (l := dirA l m) (by omega)
          have q27 := r9_q6 (l := dirA l m) (by omega)
          have g'33 := (jn @r9_len (jn @q26 (jn @q27 g'27)))
          refine runDf g'33 ?_
          refine call_x (by kernel_rfl) (by simp) (corners_c _ (g91 (dirA l m) 0) (g92 (dirA l m) 0) (g93 (dirA l m) 0) (g94 (dirA l m) 0) (g95 (dirA l m) 0) (g96 (dirA l m) 0) (by assumption)) ?_
          refine runDf g'33 ?_
          refine call_x (by kernel_rfl) (by simp) (tracedf_c _ l m (farF r g)) ?_
          refine runDf g'33 ?_
          refine inv_of (hJ _ _ ⟨_, _, _, ⟨rfl, rfl⟩, Abs.byG hbel [] rfl [0, 2, 3, 5] (by decide) ?_⟩)
          exact absRf (jn @r9_append (jn @r9_cons (jn @r9_nil @mvs_r9)))
      rintro F2 H2 ⟨rfl, rfl⟩
      refine AW_fin false try_mixed (by kernel_rfl) ?_
      have g'34 := (jn @r9_len (jn @r9_one (jn @prs_len (jn @prs_one g'27))))
      refine runTf g'34 ?_
      refine go_loop try_mixed (by kernel_rfl) (fun k F Hx => ∃ j : Nat, j + k = (fstL l m (farF r g)).length ∧ F = [(4, .ptr (some (H.length, 0))), (9, .ptr (some (H.length + 1, 0))), (10, .sl (some (H.length + 2, 0)) ((dirA l m).length) (capG (dirA l m).length)), (13, .sl (some (H.length + 4, 0)) ((((fstL l m (farF r g)).take j).filter (okcB W Hh l m (farF r g))).length) (capG (((fstL l m (farF r g)).take j).filter (okcB W Hh l m (farF r g))).length)), (49, .sl (some (H.length + 3, 0)) ((fstL l m (farF r g)).length) (capG (fstL l m (farF r g)).length)), (50, .int .i64 (((fstL l m (farF r g)).length : Nat) : Int)), (51, .int .i64 ((j : Nat) : Int))] ∧ Hx = H ++ [.cells true 0 [.int .i64 W, .int .i64 Hh, .sl (some (bpp, 0)) xs.length cpp], .cells true 0 [.int .i64 (farF r g)], .cells (ownG (dirA l m).length) 9 (r9 (dirA l m)), .cells (ownG (fstL l m (farF r g)).length) 2 (prs (fstL l m (farF r g))), .cells (ownG (((fstL l m (farF r g)).take j).filter (okcB W Hh l m (farF r g))).length) 2 (prs (((fstL l m (farF r g)).take j).filter (okcB W Hh l m (farF r g))))]) ((fstL l m (farF r g)).length) ?_ ?_
      · refine ⟨_, _, _, ⟨0, by omega, rfl, rfl⟩, Abs.byG hbel [.cells false 2 []] rfl [0, 1, 2, 3, 4] (by decide) ?_⟩
        exact absRf (jn @List.take_zero.{0} (jn @List.filter_nil.{0} (jn @r9_append (jn @r9_cons (jn @r9_nil @mvs_r9)))))
      · rintro k0 F Hx ⟨j, hm0, rfl, rfl⟩ J0 hJ0
        refine runTf g'34 ?_
        refine cond_split (fun h28 => ?_) (fun h28 => ?_)
        · have h28d := bsT h28
          have hlt : j < (fstL l m (farF r g)).length := by omega
          have hpr := (pr_eq hlt).symm
          have hst := flt_step (p := (okcB W Hh l m (farF r g))) hlt
          have hfln := flt_len (p := (okcB W Hh l m (farF r g))) (l := (fstL l m (farF r g))) (j := j)
          have q29 := prs_load (l := fstL l m (farF r g)) (j := j) (by omega)
          have g'35 := (jn @h28 (jn @h28d (jn @q29 g'34)))
          refine runTf g'35 ?_
          rcases Bool.eq_false_or_eq_true (sqO (g1 (fstL l m (farF r g)) j) (g2 (fstL l m (farF r g)) j)) with h30 | h30
          · have h30d := h30
            have hsq := h30d
            refine call_v (by kernel_rfl) (psqr_t _ (g1 (fstL l m (farF r g)) j) (g2 (fstL l m (farF r g)) j) (by assumption)) ?_
            have g'36 := (jn @h30 (jn @h30d g'35))
            refine runTf g'36 ?_
            refine call_v (by kernel_rfl) (kwithin_c _ (g1 (fstL l m (farF r g)) j) 0 (W - 1)) ?_
            refine runTf g'36 ?_
            refine gd_split (fun h31 => ?_) (fun h31 => ?_)
            · have h31d := bsT h31
              have hbx := h31d
              have g'37 := (jn @h31 (jn @h31d g'36))
              refine runTf g'37 ?_
              refine call_v (by kernel_rfl) (kwithin_c _ (g2 (fstL l m (farF r g)) j) 0 (Hh - 1)) ?_
              refine runTf g'37 ?_
              refine gd_split (fun h32 => ?_) (fun h32 => ?_)
              · have h32d := bsT h32
                have hby := h32d
                have g'38 := (jn @h32 (jn @h32d g'37))
                refine runTf g'38 ?_
                refine call_v (by kernel_rfl) (has_r _ _ (dirA l m) ⟨_, _, _, by first | rfl | (rw [List.length_append]; done) | (rw [List.length_append]; rfl), by first | rfl | (rw [get_newk]; rfl) | (rw [get_new0]; rfl) | (rw [get_newk, prs_append]; rfl) | (rw [get_new0, prs_append]; rfl)⟩ (by omega) _ [.ptr (some (H.length + 6, 0)), .ptr (some (H.length + 1, 0))] (by kernel_rfl) (by simp [AV.bels, AV.bel]) (fun e => !psC e (farF r g) (g1 (fstL l m (farF r g)) j, g2 (fstL l m (farF r g)) j)) (fun j' hj' => kprv1_c _ _ _ _ _ _ _ _ _ _ _ _ _ _ _ _ _ ⟨_, by first | (rw [get_newk]; rfl) | (rw [get_new0]; rfl)⟩ ⟨_, by first | (rw [get_newk]; rfl) | (rw [get_new0]; rfl)⟩ (hpair _ hj'))) ?_
                refine runTf g'38 ?_
                refine cond_split (fun h33 => ?_) (fun h33 => ?_)
                · have h33d := bsT h33
                  have hok : okcB W Hh l m (farF r g) (g1 (fstL l m (farF r g)) j, g2 (fstL l m (farF r g)) j) = true := by unfold okcB prvB; rw [hbx, hby, List.all_eq_not_any_not, h33d]; rfl
                  rw [hpr, if_pos hok] at hst
                  have g'39 := (jn @h33 (jn @h33d (jn @capG_s g'38)))
                  refine runTf g'39 ?_
                  refine hJ0 _ _ ⟨k0 - 1, by omega, _, _, _, ⟨j + 1, by omega, rfl, rfl⟩, Abs.byG hbel [] rfl [0, 1, 2, 3, 8] (by decide) ?_⟩
                  exact absRf (jn @hst (jn @r9_append (jn @r9_cons (jn @r9_nil @mvs_r9))))
                · have h33d := bsT h33
                  have hok : okcB W Hh l m (farF r g) (g1 (fstL l m (farF r g)) j, g2 (fstL l m (farF r g)) j) = false := by unfold okcB prvB; rw [hbx, hby, List.all_eq_not_any_not, h33d]; rfl
                  rw [hpr, if_neg (by rw [hok]; decide), List.append_nil] at hst
                  have g'40 := (jn @h33 (jn @h33d g'38))
                  refine runTf g'40 ?_
                  refine hJ0 _ _ ⟨k0 - 1, by omega, _, _, _, ⟨j + 1, by omega, rfl, rfl⟩, Abs.byG hbel [] rfl [0, 1, 2, 3, 4] (by decide) ?_⟩
                  exact absRf (jn @hst (jn @r9_append (jn @r9_cons (jn @r9_nil @mvs_r9))))
              · have h32d := bsT h32
                have hok : okcB W Hh l m (farF r g) (g1 (fstL l m (farF r g)) j, g2 (fstL l m (farF r g)) j) = false := by unfold okcB; rw [hbx, h32d]; rfl
                rw [hpr, if_neg (by rw [hok]; decide), List.append_nil] at hst
                have g'41 := (jn @h32 (jn @h32d g'37))
                refine runTf g'41 ?_
                refine hJ0 _ _ ⟨k0 - 1, by omega, _, _, _, ⟨j + 1, by omega, rfl, rfl⟩, Abs.byG hbel [] rfl [0, 1, 2, 3, 4] (by decide) ?_⟩
                exact absRf (jn @hst (jn @r9_append (jn @r9_cons (jn @r9_nil @mvs_r9))))
            · have h31d := bsT h31
              have hok : okcB W Hh l m (farF r g) (g1 (fstL l m (farF r g)) j, g2 (fstL l m (farF r g)) j) = false := by unfold okcB; rw [h31d]; rfl
              rw [hpr, if_neg (by rw [hok]; decide), List.append_nil] at hst
              have g'42 := (jn @h31 (jn @h31d g'36))
              refine runTf g'42 ?_
              refine hJ0 _ _ ⟨k0 - 1, by omega, _, _, _, ⟨j + 1, by omega, rfl, rfl⟩, Abs.byG hbel [] rfl [0, 1, 2, 3, 4] (by decide) ?_⟩
              exact absRf (jn @hst (jn @r9_append (jn @r9_cons (jn @r9_nil @mvs_r9))))
          · have h30d := h30
            have hsq := h30d
            refine call_v (by kernel_rfl) (psqr_f _ (g1 (fstL l m (farF r g)) j) (g2 (fstL l m (farF r g)) j) (by assumption)) ?_
            have g'43 := (jn @h30 (jn @h30d g'35))
            refine runTf g'43 ?_
            refine call_v (by kernel_rfl) (kwithin_c _ (g1 (fstL l m (farF r g)) j) 0 (W - 1)) ?_
            refine runTf g'43 ?_
            refine gd_split (fun h34 => ?_) (fun h34 => ?_)
            · have h34d := bsT h34
              have hbx := h34d
              have g'44 := (jn @h34 (jn @h34d g'43))
              refine runTf g'44 ?_
              refine call_v (by kernel_rfl) (kwithin_c _ (g2 (fstL l m (farF r g)) j) 0 (Hh - 1)) ?_
              refine runTf g'44 ?_
              refine gd_split (fun h35 => ?_) (fun h35 => ?_)
              · have h35d := bsT h35
                have hby := h35d
                have hq1 := btw_iff.1 hbx
                have hq2 := btw_iff.1 hby
                exact absurd (show sqO (g1 (fstL l m (farF r g)) j) (g2 (fstL l m (farF r g)) j) = true by unfold sqO; rw [Bool.and_eq_true, within_iff, within_iff]; omega) (by rw [hsq]; decide)
              · have h35d := bsT h35
                have hok : okcB W Hh l m (farF r g) (g1 (fstL l m (farF r g)) j, g2 (fstL l m (farF r g)) j) = false := by unfold okcB; rw [hbx, h35d]; rfl
                rw [hpr, if_neg (by rw [hok]; decide), List.append_nil] at hst
                have g'45 := (jn @h35 (jn @h35d g'44))
                refine runTf g'45 ?_
                refine hJ0 _ _ ⟨k0 - 1, by omega, _, _, _, ⟨j + 1, by omega, rfl, rfl⟩, Abs.byG hbel [] rfl [0, 1, 2, 3, 4] (by decide) ?_⟩
                exact absRf (jn @hst (jn @r9_append (jn @r9_cons (jn @r9_nil @mvs_r9))))
            · have h34d := bsT h34
              have hok : okcB W Hh l m (farF r g) (g1 (fstL l m (farF r g)) j, g2 (fstL l m (farF r g)) j) = false := by unfold okcB; rw [h34d]; rfl
              rw [hpr, if_neg (by rw [hok]; decide), List.append_nil] at hst
              have g'46 := (jn @h34 (jn @h34d g'43))
              refine runTf g'46 ?_
              refine hJ0 _ _ ⟨k0 - 1, by omega, _, _, _, ⟨j + 1, by omega, rfl, rfl⟩, Abs.byG hbel [] rfl [0, 1, 2, 3, 4] (by decide) ?_⟩
              exact absRf (jn @hst (jn @r9_append (jn @r9_cons (jn @r9_nil @mvs_r9))))
        · have h28d := bsT h28
          obtain rfl : j = (fstL l m (farF r g)).length := by omega
          have hfinL : ((fstL l m (farF r g)).take (fstL l m (farF r g)).length).filter (okcB W Hh l m (farF r g)) = prvL W Hh l m r g := by rw [List.take_length]; exact (if_neg hfar).symm
          have g'47 := (jn @h28 (jn @h28d g'34))
          refine runTf g'47 ?_
          refine hQ _ _ (end_byG (.inl rfl) hbel (x1 := .sl (some (H.length + 4, 0)) ((((fstL l m (farF r g)).take (fstL l m (farF r g)).length).filter (okcB W Hh l m (farF r g))).length) (capG (((fstL l m (farF r g)).take (fstL l m (farF r g)).length).filter (okcB W Hh l m (farF r g))).length)) (l2 := [.cells (ownG (((fstL l m (farF r g)).take (fstL l m (farF r g)).length).filter (okcB W Hh l m (farF r g))).length) 2 (prs (((fstL l m (farF r g)).take (fstL l m (farF r g)).length).filter (okcB W Hh l m (farF r g))))]) (.sl (some (H.length, 0)) ((((fstL l m (farF r g)).take (fstL l m (farF r g)).length).filter (okcB W Hh l m (farF r g))).length) (capG (((fstL l m (farF r g)).take (fstL l m (farF r g)).length).filter (okcB W Hh l m (farF r g))).length)) (resT Tryz.results146) [] rfl [4] (by decide) ⟨by first | (rw [hfinL]; done) | (rw [hfinL]; rfl), by first | (rw [hfinL]; done) | (rw [hfinL]; rfl)⟩ ?_)
          exact absW
open Go.RowKit
theorem befP_asymm {a b : Int × Int} (h : befP a b) : ¬ befP b a := by unfold befP at *; omega
theorem befP_irr {a : Int × Int} : ¬ befP a a := by unfold befP; omega
theorem befP_trans {a b c : Int × Int} (h : befP a b) (k : befP b c) : befP a c := by unfold befP at *; omega
theorem befP_tri (a b : Int × Int) : befP a b ∨ a = b ∨ befP b a := by
  unfold befP
  rcases Int.lt_trichotomy a.2 b.2 with h | h | h
  · exact .inl (.inl h)
  · rcases Int.lt_trichotomy a.1 b.1 with k | k | k
    · exact .inl (.inr ⟨h, k⟩)
    · exact .inr (.inl (Prod.ext k h))
    · exact .inr (.inr (.inr ⟨h.symm, k⟩))
  · exact .inr (.inr (.inl h))
/-- Equal neighbours are struck, the first of them stays. -/
def cptC : List (Int × Int) → List (Int × Int)
  | [] => []
  | [a] => [a]
  | a :: b :: l => if a = b then cptC (b :: l) else a :: cptC (b :: l)
theorem cptC_mem : ∀ {l : List (Int × Int)} {x : Int × Int}, x ∈ cptC l ↔ x ∈ l
  | [], _ => Iff.rfl
  | [_], _ => Iff.rfl
  | a :: b :: l, x => by
    unfold cptC
    split
    · rename_i h
      rw [cptC_mem (l := b :: l), List.mem_cons (l := b :: l)]
      exact ⟨.inr, fun k => k.elim (fun q => by rw [q, h]; exact List.mem_cons_self ..) id⟩
    · rw [List.mem_cons, List.mem_cons (l := b :: l), cptC_mem (l := b :: l)]
def leC (a b : Int × Int) : Prop := a = b ∨ befP a b
theorem cptC_strict : ∀ {l : List (Int × Int)}, l.Pairwise leC → (cptC l).Pairwise befP
  | [], _ => .nil
  | [a], _ => by unfold cptC; simp
  | a :: b :: l, h => by
    rw [List.pairwise_cons] at h
    have r := cptC_strict h.2
    unfold cptC
    split
    · exact r
    · rename_i hab
      rw [List.pairwise_cons]
      refine ⟨fun x hx => ?_, r⟩
      have hm := cptC_mem.1 hx
      have hb : befP a b := (h.1 b (List.mem_cons_self ..)).resolve_left hab
      rcases List.mem_cons.1 hm with q | q
      · rw [q]; exact hb
      · rcases (List.pairwise_cons.1 h.2).1 x q with k | k
        · rw [← k]; exact hb
        · exact befP_trans hb k
/-- Put one more cell into a row (the reference's put). -/
def putK (c : Int × Int) : List (Int × Int) → List (Int × Int)
  | [] => [c]
  | a :: l => if a.2 < c.2 ∨ (a.2 = c.2 ∧ a.1 < c.1) then a :: putK c l else if a = c then a :: l else c :: a :: l
theorem putK_mem {c x : Int × Int} : ∀ {l : List (Int × Int)}, x ∈ putK c l ↔ x = c ∨ x ∈ l
  | [] => by simp [putK]
  | a :: l => by
    unfold putK
    split
    · rw [List.mem_cons, putK_mem (l := l), List.mem_cons]
      exact ⟨fun k => k.elim (.inr ∘ .inl) (fun k => k.elim .inl (.inr ∘ .inr)), fun k => k.elim (.inr ∘ .inl) (fun k => k.elim .inl (.inr ∘ .inr))⟩
    · split
      · rename_i h
        exact ⟨.inr, fun k => k.elim (fun q => by rw [q, ← h]; exact List.mem_cons_self ..) id⟩
      · rw [List.mem_cons]
theorem putK_strict {c : Int × Int} : ∀ {l : List (Int × Int)}, l.Pairwise befP → (putK c l).Pairwise befP
  | [], _ => by unfold putK; simp
  | a :: l, h => by
    rw [List.pairwise_cons] at h
    unfold putK
    split
    · rename_i k
      rw [List.pairwise_cons]
      refine ⟨fun x hx => ?_, putK_strict h.2⟩
      rcases putK_mem.1 hx with q | q
      · rw [q]; exact k
      · exact h.1 x q
    · rename_i k
      split
      · exact List.pairwise_cons.2 h
      · rename_i e
        have hc : befP c a := ((befP_tri c a).resolve_right fun q => q.elim (fun q => e q.symm) (fun q => k q))
        rw [List.pairwise_cons]
        refine ⟨fun x hx => ?_, List.pairwise_cons.2 h⟩
        rcases List.mem_cons.1 hx with q | q
        · rw [q]; exact hc
        · exact befP_trans hc (h.1 x q)
/-- Sorted and compacted, or put in one by one: the same row. -/
theorem cpt_put {l s : List (Int × Int)} (hs : s.Pairwise leC) (hm : ∀ x, x ∈ s ↔ x ∈ l) : cptC s = l.foldl (fun o c => putK c o) [] := by
  have g : ∀ (l o : List (Int × Int)), o.Pairwise befP → (l.foldl (fun o c => putK c o) o).Pairwise befP ∧ ∀ x, x ∈ l.foldl (fun o c => putK c o) o ↔ x ∈ l ∨ x ∈ o := by
    intro l
    induction l with
    | nil => exact fun o ho => ⟨ho, fun x => by simp⟩
    | cons a l ih =>
      intro o ho
      have k := ih (putK a o) (putK_strict ho)
      refine ⟨k.1, fun x => ?_⟩
      rw [List.foldl_cons, k.2 x, putK_mem, List.mem_cons]
      exact ⟨fun q => q.elim (.inl ∘ .inr) (fun q => q.elim (.inl ∘ .inl) .inr), fun q => q.elim (fun q => q.elim (.inr ∘ .inl) .inl) (.inr ∘ .inr)⟩
  have k := g l [] .nil
  exact eq_sorted (cptC_strict hs) k.1 fun x => by rw [cptC_mem, hm, k.2]; simp
theorem cpt_snoc : ∀ (m : List (Int × Int)) (y x : Int × Int), cptC (m ++ [y] ++ [x]) = cptC (m ++ [y]) ++ (if y = x then [] else [x])
  | [], y, x => by
    show cptC [y, x] = cptC [y] ++ _
    unfold cptC
    split
    · rename_i h; subst h; simp [cptC]
    · rename_i h; simp [cptC]
  | [a], y, x => by
    show cptC (a :: y :: [x]) = cptC (a :: y :: []) ++ _
    simp only [cptC]
    by_cases h : a = y
    · by_cases k : y = x
      · simp [h, k]
      · simp [h, k]
    · by_cases k : y = x
      · simp [h, k]
      · simp [h, k]
  | a :: b :: m, y, x => by
    show cptC (a :: b :: (m ++ [y] ++ [x])) = cptC (a :: b :: (m ++ [y])) ++ _
    have ih := cpt_snoc (b :: m) y x
    simp only [List.cons_append] at ih
    rw [cptC, cptC, ih]
    by_cases h : a = b
    · rw [if_pos h, if_pos h]
    · rw [if_neg h, if_neg h, List.cons_append]
theorem cpt_step {l : List (Int × Int)} {j : Nat} (h1 : 1 ≤ j) (hj : j < l.length) : cptC (l.take (j + 1)) = cptC (l.take j) ++ (if l[j - 1]'(by omega) = l[j] then [] else [l[j]]) := by
  obtain ⟨i, rfl⟩ : ∃ i, j = i + 1 := ⟨j - 1, by omega⟩
  have e1 := List.take_succ_eq_append_getElem hj
  have e2 := List.take_succ_eq_append_getElem (show i < l.length by omega)
  rw [e1, e2]
  exact cpt_snoc _ _ _
theorem cpt_1 {l : List (Int × Int)} (h : l.length < 2) : cptC l = l := by
  match l, h with
  | [], _ => rfl
  | [_], _ => rfl
theorem cpt_len (l : List (Int × Int)) : (cptC l).length ≤ l.length := by
  match l with
  | [] => exact Nat.le_refl _
  | [_] => exact Nat.le_refl _
  | a :: b :: m =>
    have := cpt_len (b :: m)
    rw [cptC]
    split
    · exact Nat.le_trans this (by simp)
    · simp only [List.length_cons] at *; omega
/-- Two sorted rows with the same elements are one. -/
theorem leC_anti {a b : Int × Int} (h : leC a b) (k : leC b a) : a = b := by
  unfold leC at *
  rcases h with h | h
  · exact h
  · rcases k with k | k
    · exact k.symm
    · exact absurd k (befP_asymm h)
theorem sortP_eq : ∀ {l m : List (Int × Int)}, l.Perm m → l.Pairwise leC → m.Pairwise leC → l = m
  | [], m, h, _, _ => (List.Perm.nil_eq h)
  | a :: l, [], h, _, _ => absurd h.symm.nil_eq (by simp)
  | a :: l, b :: m, h, h1, h2 => by
    rw [List.pairwise_cons] at h1 h2
    have hab : a = b := by
      have ha : a ∈ b :: m := h.subset (List.mem_cons_self ..)
      have hb : b ∈ a :: l := h.symm.subset (List.mem_cons_self ..)
      rcases List.mem_cons.1 ha with e | e
      · exact e
      · rcases List.mem_cons.1 hb with e2 | e2
        · exact e2.symm
        · exact leC_anti (h1.1 b e2) (h2.1 a e)
    subst hab
    rw [sortP_eq (List.Perm.cons_inv h) h1.2 h2.2]
theorem leC_tot (a b : Int × Int) : leC a b ∨ leC b a := by
  unfold leC
  rcases befP_tri a b with h | h | h
  · exact .inl (.inr h)
  · exact .inl (.inl h)
  · exact .inr (.inr h)
theorem leC_trans {a b c : Int × Int} (h : leC a b) (k : leC b c) : leC a c := by
  unfold leC at *
  rcases h with rfl | h
  · exact k
  · rcases k with rfl | k
    · exact .inr h
    · exact .inr (befP_trans h k)
instance (a b : Int × Int) : Decidable (befP a b) := by unfold befP; infer_instance
instance (a b : Int × Int) : Decidable (leC a b) := by unfold leC; infer_instance
/-- The sorted row. -/
def srtC (l : List (Int × Int)) : List (Int × Int) := l.mergeSort fun a b => decide (leC a b)
theorem srtC_perm (l : List (Int × Int)) : (srtC l).Perm l := List.mergeSort_perm _ _
theorem srtC_len (l : List (Int × Int)) : (srtC l).length = l.length := (srtC_perm l).length_eq
theorem srtC_sorted (l : List (Int × Int)) : (srtC l).Pairwise leC := by
  have h := List.pairwise_mergeSort (le := fun a b => decide (leC a b)) (fun a b c h k => by simp only [decide_eq_true_eq] at *; exact leC_trans h k) (fun a b => by simp only [Bool.or_eq_true, decide_eq_true_eq]; exact leC_tot a b) l
  unfold srtC
  refine h.imp fun {a b} k => ?_
  simpa using k
theorem srtC_nil : srtC [] = [] := by simp [srtC]
open Go.RowKit
/-- The cells that the first beams prove free, one list behind the other. -/
def prS (W Hh : Int) (l : List T6) (sc : List (Int × Int)) (g : Int) : Nat → List (Int × Int)
  | 0 => []
  | i + 1 => prS W Hh l sc g i ++ prvL W Hh l (g1 sc i) (g2 sc i) g
def rowA (W Hh : Int) (l : List T6) (sc : List (Int × Int)) (g : Int) : List (Int × Int) := if tauB l = true then prS W Hh l sc g sc.length else []
def allL (W Hh : Int) (l : List T6) (sc : List (Int × Int)) (g : Int) : List (Int × Int) := cptC (srtC (rowA W Hh l sc g))
theorem prS_len (W Hh : Int) (l : List T6) (sc : List (Int × Int)) (g : Int) : ∀ i : Nat, (prS W Hh l sc g i).length ≤ 7225 * i
  | 0 => by simp [prS]
  | i + 1 => by
    have := prS_len W Hh l sc g i
    have := prvL_len W Hh l (g1 sc i) (g2 sc i) g
    simp only [prS, List.length_append]; omega
theorem allL_nil {W Hh : Int} {l : List T6} {sc : List (Int × Int)} {g : Int} (h : tauB l = false) : allL W Hh l sc g = [] ∧ rowA W Hh l sc g = [] := by
  have e : rowA W Hh l sc g = [] := if_neg (by rw [h]; decide)
  exact ⟨by unfold allL; rw [e, srtC_nil]; rfl, e⟩
/-- The cells that the rays from all pairs meet, one list behind the other. -/
def swS (l : List T9) (r g : Int) : Nat → List (Int × Int)
  | 0 => []
  | i + 1 => swS l r g i ++ sptL (g91 l i) (g92 l i) (g93 l i) (g94 l i) (g97 l i) (g98 l i) (g99 l i) (if 0 < r - g then r - g else 0) (r + g)
def rowU (l : List T6) (m r g : Int) : List (Int × Int) := if (decide (r = -1) || !tauB l) = true then [] else swS (dirA l m) r g (dirA l m).length
def susL (l : List T6) (m r g : Int) : List (Int × Int) := cptC (srtC (rowU l m r g))
theorem swS_len (l : List T9) (r g : Int) : ∀ i : Nat, (swS l r g i).length ≤ 7225 * i
  | 0 => by simp [swS]
  | i + 1 => by
    have := swS_len l r g i
    have := sptL_len (g91 l i) (g92 l i) (g93 l i) (g94 l i) (g97 l i) (g98 l i) (g99 l i) (if 0 < r - g then r - g else 0) (r + g)
    simp only [swS, List.length_append]; omega
theorem susL_nil {l : List T6} {m r g : Int} (h : r = -1 ∨ tauB l = false) : susL l m r g = [] ∧ rowU l m r g = [] := by
  have e : rowU l m r g = [] := if_pos (by rcases h with h | h <;> simp [h])
  exact ⟨by unfold susL; rw [e, srtC_nil]; rfl, e⟩
theorem dirA_tau {l : List T6} (hS : setB l = true) (h : tauB l = true) (m : Int) : (dirA l m).length ≤ 32 := by
  unfold tauB at h
  rw [Bool.and_eq_true, decide_eq_true_eq] at h
  have k : ∀ i : Nat, i ≤ l.length → ((dirS l m i).length : Int) = sumC l i := fun i => by
    induction i with
    | zero => intro _; rfl
    | succ i ih =>
      intro hi
      have := ih (by omega)
      have q := mkB_len hS (show i < l.length by omega)
      simp only [dirS, sumC, List.length_append, dirB_len]; omega
  have := k l.length (Nat.le_refl _)
  unfold dirA; omega
open Go.RowKit Go.Sort
set_option maxRecDepth 100000 in
theorem sortc_f {α : Type} [Inhabited α] (val : α → Int × Int) (cf : α → α → Int) (hO : SWO (ltOf cf)) (g : FuncId) (eg : ∀ args w, (callFunc g args).run Tryz.prog w = .ok (.enter g args) w)
    (hcmp : ∀ (x y : α) (W : World), Calls Tryz.prog g #[.agg #[.int .i64 (val x).1, .int .i64 (val x).2], .agg #[.int .i64 (val y).1, .int .i64 (val y).2]] W fun e w' => e = .returned (.int .i64 (cf x y)) ∧ ∃ q os', w' = grow (W.drewN q) os')
    {H : AHeap} {b n : Nat} {cap : Option Nat} {zs : List α} (hg : H[b]? = some (.cells true 2 (prs (zs.map val)))) (hn : n = zs.length) (h0 : 0 < n) (h1 : n ≤ 1000000) :
    ACalls Tryz.prog 147 [.sl (some (b, 0)) n cap, .fn g []] H
      (fun v H' => v = .tup [] ∧ ∃ ys : List α, ys.Perm zs ∧ ys.Pairwise (fun x y => ltOf cf y x = false) ∧ H' = H.set b (.cells true 2 (prs (ys.map val)))) := fun E w vs hE hv => by
  obtain ⟨v1, l1, rfl, k1, h1'⟩ := rels_cons hv
  obtain ⟨v2, l2, rfl, k2, h2'⟩ := rels_cons h1'
  obtain rfl := rels_nil h2'
  have hf : v2 = .func (.func g) #[] #[] := by
    cases k2 with
    | fn _ _ cs hl _ =>
      have : cs = #[] := by
        have : cs.size = 0 := hl.symm
        exact Array.eq_empty_of_size_eq_zero this
      rw [this]
  subst hf
  cases k1 with
  | nils _ _ _ _ => exact absurd h0 (Nat.lt_irrefl 0)
  | sl _ _ _ _ c a hb h2 h3 h4 h5 h6 =>
  have hc : c ≠ 0 := by omega
  obtain rfl := h5.resolve_left hc
  obtain ⟨m1, m2, -, -⟩ := hE.blk b _ hg
  obtain ⟨o1, o2, o3, o4, o5⟩ := m2 rfl
  have hpl : (prs (zs.map val)).length = zs.length * 2 := by rw [prs_len]; simp
  have hH : HoldsK (encP val) 2 w (E.loc b).blk (E.loc b).off zs.toArray := by
    show Holds id w _ _ (flatK (encP val) 2 zs.toArray)
    rw [flat_list]
    intro j hj
    have hj' : j < zs.length * 2 := by simpa [enc2_len] using hj
    refine ⟨?_, (o5 j (by omega)).2⟩
    have hx : (prs (zs.map val))[j]? = some (prs (zs.map val))[j] := List.getElem?_eq_getElem (by omega)
    obtain ⟨-, v, hv, hr⟩ := m1 j _ hx
    rw [hv]
    obtain ⟨u, hu, hru⟩ := (rels_prs (E := E) (zs.map val)).get hx
    have : ∀ (k : Nat) (l : List (Int × Int)) (y : AV) (v u : Value), (prs l)[k]? = some y → Rel E y v → (enc2 l)[k]? = some u → v = u := by
      intro k l
      induction l generalizing k with
      | nil => intro y v u h; simp [prs] at h
      | cons p l ih =>
        intro y v u h1 h2 h3
        match k with
        | 0 => simp [prs_cons, enc2] at h1 h3; subst h1 h3; exact rel_int h2
        | 1 => simp [prs_cons, enc2] at h1 h3; subst h1 h3; exact rel_int h2
        | k + 2 =>
          refine ih k y v u (by simpa [prs_cons] using h1) h2 ?_
          simpa [enc2] using h3
    have e := this j _ _ v u hx hr hu
    subst e
    simp [List.getElem!_eq_getElem?_getD, hu]
  have hcon := AnyQ.slices_SortFunc Tryz.sort147 2 Tryz.isAgg63 Tryz.sizeOf63 (encP val) (fun _ => rfl) (fun x v hv => by simp [encP] at hv; rcases hv with rfl | rfl <;> rfl) cf hO g #[] (E.loc b).blk (E.loc b).off c zs.toArray w eg
    (fun _ _ _ _ x y => by simpa [encP] using hcmp x y _) hH o2 (by simp; omega)
  change Calls Tryz.prog 147 _ _ _ at hcon
  have hsz : zs.toArray.size = n := by simp [hn]
  rw [hsz] at hcon
  refine hcon.mono fun e w' ⟨he, d', q, os, hp, hs, hw⟩ => ?_
  subst hw
  obtain ⟨p1, -, p3⟩ := hp
  have hperm : d'.toList.Perm zs := by
    have a1 : d'.extract 0 n = d' := by rw [← hsz, ← p1]; simp
    have a2 : zs.toArray.extract 0 n = zs.toArray := by rw [← hsz]; simp
    rw [a1, a2] at p3
    simpa using p3
  have hl : (d'.toList.map val).length = (zs.map val).length := by simp [hperm.length_eq]
  refine ⟨E, _, _, .tup [], he, ⟨rfl, d'.toList, hperm, ?_, rfl⟩, .refl E, .tup [] #[] rfl (fun i x v h => by simp at h), ?_⟩
  · rw [List.pairwise_iff_getElem]
    intro i j hi hj hij
    have := hs i j (Nat.zero_le _) hij (by have := hperm.length_eq; simp at hj this; omega)
    simp at hi hj
    simpa [hi, hj] using this
  · have hd : d' = d'.toList.toArray := by simp
    have e1 : sortWorldK (encP val) 2 w (E.loc b).blk (E.loc b).off q d' os = grow ((w.drewN q).setCells (E.loc b).blk (E.loc b).off (enc2 (d'.toList.map val))) os := by
      unfold sortWorldK
      congr 1
      show putRow id (Sort.ahead w q) _ _ (flatK (encP val) 2 d') = _
      rw [hd, flat_list]
      have := Lib.putRow_eq_setCells id w (E.loc b).blk (E.loc b).off (flatK (encP val) 2 zs.toArray) (enc2 (d'.toList.map val)) q hH (by rw [enc2_len, hl]; simp)
      simpa using this
    rw [e1]
    exact hE.putP hg hl os
open Go.RowKit Go.Sort
theorem or_h (a b : Int) (w : World) (blk off c : Nat) (h0 : w.cell? ⟨blk, off, none⟩ = some (.int .i64 a)) (h1 : w.cell? ⟨blk, off + 1, none⟩ = some (.int .i64 b)) :
    Calls Tryz.prog 224 #[.slice (some ⟨blk, off, none⟩) 2 c] w fun e w' => e = .returned (.int .i64 (if a = 0 then b else a)) ∧ w' = w := by
  have g0 : w.cell? ⟨blk, off + 0, none⟩ = some (.int .i64 a) := h0
  go_enter Tryz.func224, Tryz.ntmps224
  go_wp2
  go_loop [8] (fun i => ∃ k : Nat, k ≤ 2 ∧ i = .int .i64 k ∧ Hid ((1 ≤ k → a = 0) ∧ (2 ≤ k → b = 0))) (fun i => 2 - (intOf i).toNat)
  case atStart => exact ⟨0, by omega, rfl, ⟨fun h => by omega, fun h => by omega⟩⟩
  case round =>
    obtain ⟨k, hk, rfl, HK⟩ := hrel
    rcases (by omega : k = 0 ∨ k = 1 ∨ k = 2) with rfl | rfl | rfl
    · by_cases ha : a = 0
      · go_wp2
        go_round
        case rel => exact ⟨1, by omega, by go_num, ⟨fun _ => ha, fun h => by omega⟩⟩
        case measure => simp [intOf]
      · go_wp2
        go_ret
        exact ⟨ret_int (by first | rfl | (rw [if_neg ha])), rfl⟩
    · have ha := HK.out.1 (by omega)
      by_cases hb : b = 0
      · go_wp2
        go_round
        case rel => exact ⟨2, by omega, by go_num, ⟨fun _ => ha, fun h => hb⟩⟩
        case measure => simp [intOf]
      · go_wp2
        go_ret
        exact ⟨ret_int (by first | rfl | (rw [if_pos ha])), rfl⟩
    · have ha := HK.out.1 (by omega)
      have hb := HK.out.2 (by omega)
      go_wp2
      go_ret
      exact ⟨ret_int (by first | rfl | (rw [if_pos ha, hb])), rfl⟩
theorem cell_last (w : World) (cs : Array Value) (t B j : Nat) (hB : B = w.heap.size) : (w.alloc (.cells cs t)).cell? ⟨B, j, none⟩ = cs[j]? := by
  subst hB
  unfold World.cell?
  have : (w.alloc (.cells cs t)).heap[w.heap.size]? = some (.cells cs t) := by
    show (w.heap.push _)[w.heap.size]? = _
    rw [Array.getElem?_push, if_pos rfl]
  rw [this]; rfl
theorem cell_lastd (w : World) (cs : Array Value) (t B j : Nat) (hB : B = w.heap.size) : (w.alloc (.cells cs t)).drew.cell? ⟨B, j, none⟩ = cs[j]? := cell_last w cs t B j hB
/-- By (Y, X). -/
def cfC (a b : Pt) : Int := if cmpI a.2 b.2 = 0 then cmpI a.1 b.1 else cmpI a.2 b.2
set_option maxHeartbeats 20000000 in
theorem before_h (x y : Pt) (W : World) : Calls Tryz.prog 148 #[.agg #[.int .i64 x.1, .int .i64 x.2], .agg #[.int .i64 y.1, .int .i64 y.2]] W fun e w' => e = .returned (.int .i64 (cfC x y)) ∧ ∃ q os', w' = grow (W.drewN q) os' := by
  have hcon := compare_h
  have hcon2 : ∀ (w : World) (blk off c : Nat), w.cell? ⟨blk, off, none⟩ = some (.int .i64 (cmpI x.2 y.2)) → w.cell? ⟨blk, off + 1, none⟩ = some (.int .i64 (cmpI x.1 y.1)) →
    Calls Tryz.prog 224 #[.slice (some ⟨blk, off, none⟩) 2 c] w fun e w' => e = .returned (.int .i64 (cfC x y)) ∧ w' = w := by
    intro w blk off c h0 h1
    have k := or_h (cmpI x.2 y.2) (cmpI x.1 y.1) w blk off c h0 h1
    unfold cfC
    exact k
  go_enter Tryz.func148, Tryz.ntmps148
  go_wp2_with (first | (go_at_call 225; refine (hcon _ _ _).mono ?_; rintro e w' ⟨rfl, rfl⟩) | fail)
  go_region_held3 (fun w' => w'.cell? ⟨W.heap.size, 0, none⟩ = some (.int .i64 x.1) ∧ w'.cell? ⟨W.heap.size, 1, none⟩ = some (.int .i64 x.2) ∧ w'.cell? ⟨W.heap.size + 1, 0, none⟩ = some (.int .i64 y.1) ∧ w'.cell? ⟨W.heap.size + 1, 1, none⟩ = some (.int .i64 y.2)) (go_keep)
    (first
      | (go_at_call 225; refine (hcon _ _ _).mono ?_; rintro e w' ⟨rfl, rfl⟩)
      | (go_at_call 224; refine (hcon2 _ _ _ _ ?h1 ?h2).mono ?_; case h1 => first | exact (cell_last _ _ _ _ _ (by simp)).trans rfl | exact (cell_lastd _ _ _ _ _ (by simp)).trans rfl
         case h2 => first | exact (cell_last _ _ _ _ _ (by simp)).trans rfl | exact (cell_lastd _ _ _ _ _ (by simp)).trans rfl
         rintro e w' ⟨rfl, rfl⟩))
  go_wp2
  go_ret
  exact ⟨rfl, 1, _, by rw [alloc_eq_grow, alloc_eq_grow, alloc_eq_grow, grow_grow, grow_grow]; rfl⟩
theorem ltC_iff (x y : Pt) : ltOf cfC x y = decide (befP x y) := by
  rw [Bool.eq_iff_iff]
  unfold ltOf
  rw [decide_eq_true_eq, decide_eq_true_eq]
  unfold cfC cmpI befP
  repeat' split
  all_goals omega
theorem swoC : SWO (ltOf cfC) where
  irrefl x := by rw [ltC_iff, decide_eq_false_iff_not]; exact befP_irr
  trans x y z h1 h2 := by
    rw [ltC_iff, decide_eq_true_eq] at *
    exact befP_trans h1 h2
  ntrans x y z h1 h2 := by
    rw [ltC_iff, decide_eq_false_iff_not] at *
    unfold befP at *; omega
set_option maxRecDepth 100000 in
/-- Cells sorted by (Y, X). -/
theorem sortc_c (H : AHeap) (b : Nat) (cap : Option Nat) (l : List Pt) (hb : H[b]? = some (.cells true 2 (prs l))) (h0 : 0 < l.length) (h1 : l.length ≤ 1000000) :
    ACalls Tryz.prog 147 [.sl (some (b, 0)) l.length cap, .fn 148 []] H (fun v H' => v = .tup [] ∧ H' = H.set b (.cells true 2 (prs (srtC l)))) := by
  have eg : ∀ args w, (callFunc 148 args).run Tryz.prog w = .ok (.enter 148 args) w := enters_of Tryz.func148 (by kernel_rfl) rfl
  refine (sortc_f (α := Pt) id cfC swoC 148 eg (fun x y W => before_h x y W) (zs := l) (by rw [List.map_id]; exact hb) rfl h0 h1).mono ?_
  rintro v H' ⟨rfl, ys, hp, hs, rfl⟩
  have e : ys = srtC l := by
    refine sortP_eq (hp.trans (srtC_perm l).symm) (hs.imp fun {x y} h => ?_) (srtC_sorted l)
    rw [ltC_iff, decide_eq_false_iff_not] at h
    rcases leC_tot x y with k | k
    · exact k
    · unfold leC at k ⊢
      rcases k with k | k
      · exact .inl k.symm
      · exact absurd k h
  rw [List.map_id, e]
  exact ⟨rfl, rfl⟩
end Go.Proofs.YteieacinbfimlaaGreat
